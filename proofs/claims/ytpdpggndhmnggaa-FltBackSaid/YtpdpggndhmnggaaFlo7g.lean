/- The reference's Form.From. -/
import Derived.Test.YtpdpggndhmnggaaF15g
import Derived.Test.YtpdpggndhmnggaaF16g
import Derived.Test.YtpdpggndhmnggaaF17g
import Derived.Test.YtpdpggndhmnggaaF18g
import Derived.Test.YtpdpggndhmnggaaFlo4g
import Derived.Test.YtpdpggndhmnggaaF12g
import Derived.Test.YtpdpggndhmnggaaF8g
import Derived.Test.YtpdpggndhmnggaaLead2g
namespace Go.Proofs.Ytpdpggndhmnggaa.M
open Go.RowKit Go.Proofs.YtpdpggndhmnggaaW.PrintWords Go.Proofs.YtpdpggndhmnggaaW.PrintLast Go.Proofs.YtpdpggndhmnggaaW.PrintMore Go.Proofs.Ytpdpggndhmnggaa.F
set_option linter.unusedVariables false
set_option linter.unusedSimpArgs false
def eR (f r : Nat) (low : Int) : Int := if r < f then low else low + ((r / f - 1 : Nat) : Int)
end Go.Proofs.Ytpdpggndhmnggaa.M

namespace Go.Proofs.Ytpdpggndhmnggaa.M
open Go.RowKit Go.Proofs.YtpdpggndhmnggaaW.PrintWords Go.Proofs.YtpdpggndhmnggaaW.PrintLast Go.Proofs.YtpdpggndhmnggaaW.PrintMore Go.Proofs.Ytpdpggndhmnggaa.F
set_option linter.unusedVariables false
set_option linter.unusedSimpArgs false
/-- v / 2^k as a whole number, to the nearest; half to the even one. -/
def cutN (v k : Nat) : Nat := v / 2 ^ k + (if 2 ^ (k - 1) < v % 2 ^ k ∨ (v % 2 ^ k = 2 ^ (k - 1) ∧ v / 2 ^ k % 2 = 1) then 1 else 0)
theorem cut_eq {v k : Nat} (hv : v < 18446744073709551616) (h1 : 1 ≤ k) (h2 : k ≤ 64) : flt_cut.f (v : Int) (k : Int) = some ((cutN v k : Nat) : Int) := by
  have hp : 0 < 2 ^ (64 - k) := Nat.pow_pos (by decide)
  have e1 : shl .u64 (v : Int) ((64 - k : Nat) : Int) = ((v % 2 ^ k * 2 ^ (64 - k) : Nat) : Int) := by rw [shl_nat, shl_word h2]
  have e2 : shr .u64 ((v / 2 : Nat) : Int) ((k - 1 : Nat) : Int) = ((v / 2 ^ k : Nat) : Int) := by
    rw [shr_nat (by omega), Nat.div_div_eq_div_mul, ← Nat.pow_succ', show (k - 1).succ = k by omega]
  have e3 : (9223372036854775808 : Nat) = 2 ^ (k - 1) * 2 ^ (64 - k) := by
    rw [← Nat.pow_add, show k - 1 + (64 - k) = 63 by omega]
  have hlt : v % 2 ^ k * 2 ^ (64 - k) > 9223372036854775808 ↔ 2 ^ (k - 1) < v % 2 ^ k := by rw [e3]; exact Nat.mul_lt_mul_right hp
  have heq : v % 2 ^ k * 2 ^ (64 - k) = 9223372036854775808 ↔ v % 2 ^ k = 2 ^ (k - 1) := by rw [e3]; exact ⟨fun h => Nat.eq_of_mul_eq_mul_right hp h, fun h => by rw [h]⟩
  have hw : v / 2 ^ k ≤ 9223372036854775807 := by
    have : v / 2 ^ k ≤ v / 2 ^ 1 := Nat.div_le_div_left (Nat.pow_le_pow_right (by decide) h1) (by decide)
    omega
  have ew : ∀ q : Nat, q ≤ 9223372036854775807 → IntKind.u64.wrap ((q : Int) + 1) = ((q + 1 : Nat) : Int) := fun q hq => by rw [u64s (by omega) (by omega)]; omega
  unfold flt_cut.f cutN
  rw [w64 (x := (k : Int) - 1) (by omega) (by omega), w64 (x := 64 - (k : Int)) (by omega) (by omega), if_pos (by omega), if_pos (by omega), show (k : Int) - 1 = ((k - 1 : Nat) : Int) by omega, show 64 - (k : Int) = ((64 - k : Nat) : Int) by omega, show (v : Int) / 2 = ((v / 2 : Nat) : Int) from rfl, e1, e2]
  generalize v / 2 ^ k = q at *
  generalize hr : v % 2 ^ k * 2 ^ (64 - k) = R at *
  by_cases c1 : R > 9223372036854775808
  · rw [if_pos (by omega), ew q hw, if_pos (.inl (hlt.1 c1))]
  · have n1 : ¬ 2 ^ (k - 1) < v % 2 ^ k := fun h => c1 (hlt.2 h)
    rw [if_neg (by omega)]
    by_cases c2 : R = 9223372036854775808
    · have h3 := heq.1 c2
      rw [if_pos (by omega), and_one (by omega)]
      by_cases c3 : q % 2 = 1
      · rw [if_pos (by omega), ew q hw, if_pos (.inr ⟨h3, c3⟩)]
      · rw [if_neg (by omega), if_neg (fun h => by rcases h with h | h; · exact n1 h
                                                   · exact c3 h.2)]
        rfl
    · rw [if_neg (by omega), if_neg (fun h => by rcases h with h | h; · exact n1 h
                                                 · exact c2 (heq.2 h.1))]
      rfl
end Go.Proofs.Ytpdpggndhmnggaa.M
