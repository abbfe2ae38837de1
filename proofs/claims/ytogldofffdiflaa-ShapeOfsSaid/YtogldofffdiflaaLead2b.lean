/- What the program's first layer computes, second part: runs, signed numbers, texts; and the reference's. -/
import Derived.Test.YtogldofffdiflaaF3b
import Derived.Test.YtogldofffdiflaaF0b
import Derived.Test.YtogldofffdiflaaLeadb
namespace Go.Proofs.Ytogldofffdiflaa.M
open Go.RowKit Go.Proofs.YtogldofffdiflaaW.PrintWords Go.Proofs.YtogldofffdiflaaW.PrintLast Go.Proofs.YtogldofffdiflaaW.PrintMore Go.Proofs.Ytogldofffdiflaa.F
set_option linter.unusedVariables false
set_option linter.unusedSimpArgs false
/-- What is counted: the lowest n bits, or, where the highest of them is a one, their complement. -/
def left (x n : Nat) : Nat := if 2 ^ (n - 1) ≤ x % 2 ^ n then 2 ^ n - 1 - x % 2 ^ n else x % 2 ^ n
theorem shl_word {x n : Nat} (hn : n ≤ 64) : x * 2 ^ (64 - n) % 18446744073709551616 = x % 2 ^ n * 2 ^ (64 - n) := by
  have e : 18446744073709551616 = 2 ^ (64 - n) * 2 ^ n := by rw [← Nat.pow_add, show 64 - n + n = 64 by omega, p64']
  rw [e, Nat.mul_comm x, Nat.mul_mod_mul_left, Nat.mul_comm]
/-- The lowest n bits as a signed number. -/
def ext (x n : Nat) : Int := if 2 ^ (n - 1) ≤ x % 2 ^ n then (x % 2 ^ n : Nat) - ((2 ^ n : Nat) : Int) else ((x % 2 ^ n : Nat) : Int)
theorem Extend_eq {x n : Nat} (hx : x < 18446744073709551616) (h1 : 0 < n) (h2 : n ≤ 64) : lead_Extend.f (x : Int) (n : Int) = some (ext x n, none) := by
  have hv := Nat.mod_lt x (Nat.pow_pos (n := n) (show 0 < 2 by decide))
  have e64 : 2 ^ n * 2 ^ (64 - n) = 18446744073709551616 := by rw [← Nat.pow_add, show n + (64 - n) = 64 by omega, p64']
  have e63 : 2 ^ (n - 1) * 2 ^ (64 - n) = 9223372036854775808 := by rw [← Nat.pow_add, show n - 1 + (64 - n) = 63 by omega]
  have hk : 0 < 2 ^ (64 - n) := Nat.pow_pos (by decide)
  have ew : wrap64 (64 - (n : Int)) = ((64 - n : Nat) : Int) := by rw [w64 (by omega) (by omega)]; omega
  have hy : x % 2 ^ n * 2 ^ (64 - n) + 2 ^ (64 - n) ≤ 18446744073709551616 := by rw [← e64, ← Nat.succ_mul]; exact Nat.mul_le_mul_right _ hv
  unfold lead_Extend.f
  rw [if_neg (by omega), if_neg (by omega), ew, if_pos (by omega), shl_nat, shl_word h2]
  unfold shr
  rw [Int.toNat_natCast, show IntKind.i64.bits = 64 from rfl, Nat.min_eq_left (by omega)]
  have hc : (2 : Int) ^ (64 - n) = ((2 ^ (64 - n) : Nat) : Int) := by simp
  have hkI : (0 : Int) < ((2 ^ (64 - n) : Nat) : Int) := by omega
  rw [hc]
  congr 2
  unfold ext
  by_cases ht : 2 ^ (n - 1) ≤ x % 2 ^ n
  · have h3 : 9223372036854775808 ≤ x % 2 ^ n * 2 ^ (64 - n) := by rw [← e63]; exact Nat.mul_le_mul_right _ ht
    have h4 : wrap64 ((x % 2 ^ n * 2 ^ (64 - n) : Nat) : Int) = (((x % 2 ^ n : Nat) : Int) - ((2 ^ n : Nat) : Int)) * ((2 ^ (64 - n) : Nat) : Int) := by
      have : wrap64 ((x % 2 ^ n * 2 ^ (64 - n) : Nat) : Int) = ((x % 2 ^ n * 2 ^ (64 - n) : Nat) : Int) - 18446744073709551616 := by unfold wrap64; omega
      rw [this, Int.sub_mul, ← Int.natCast_mul, ← Int.natCast_mul, e64]
      rfl
    rw [h4, Int.mul_ediv_cancel _ (by omega), if_pos ht]
  · have h3 : x % 2 ^ n * 2 ^ (64 - n) < 9223372036854775808 := by rw [← e63]; exact Nat.mul_lt_mul_of_pos_right (by omega) hk
    rw [w64 (by omega) (by omega), ← Int.natCast_ediv, Nat.mul_div_cancel _ hk, if_neg ht]
theorem code0 : vernierlaw00_Code.f none = some 0 := rfl
end Go.Proofs.Ytogldofffdiflaa.M
