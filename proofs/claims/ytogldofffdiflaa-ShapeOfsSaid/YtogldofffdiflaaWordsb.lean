/- Words of 64 bits as natural numbers: what Go's operations on bits are in arithmetic; how many bits a word has. -/
import Derived.Test.YtogldofffdiflaaF2b
import Derived.Test.YtogldofffdiflaaBaseb
namespace Go.Proofs.Ytogldofffdiflaa.M
open Go.RowKit Go.Proofs.YtogldofffdiflaaW.PrintWords Go.Proofs.YtogldofffdiflaaW.PrintLast Go.Proofs.YtogldofffdiflaaW.PrintMore Go.Proofs.Ytogldofffdiflaa.F
set_option linter.unusedVariables false
set_option linter.unusedSimpArgs false
theorem u64_keep (n : Int) (h0 : 0 ≤ n) (h1 : n < 2 ^ 64) : IntKind.u64.wrap n = n := u64s h0 (by omega)
theorem and_nat {a b : Nat} (ha : a < 18446744073709551616) (hb : b < 18446744073709551616) : Go.bits .and .u64 (a : Int) (b : Int) = ((a &&& b : Nat) : Int) :=
  (bits_nat .u64 64 (by decide) u64_keep a b ha hb).1
/-- A word's lowest bits. -/
theorem and_mask {a n : Nat} (ha : a < 18446744073709551616) (hn : n ≤ 64) : Go.bits .and .u64 (a : Int) ((2 ^ n - 1 : Nat) : Int) = ((a % 2 ^ n : Nat) : Int) := by
  have h1 : 2 ^ n ≤ 2 ^ 64 := Nat.pow_le_pow_right (by decide) hn
  have h2 : (2 : Nat) ^ 64 = 18446744073709551616 := by decide
  have h3 : 0 < 2 ^ n := Nat.pow_pos (by decide)
  rw [and_nat ha (by omega), Nat.and_two_pow_sub_one_eq_mod]
theorem shl_nat (a n : Nat) : shl .u64 (a : Int) (n : Int) = ((a * 2 ^ n % 18446744073709551616 : Nat) : Int) := by
  have c : ((18446744073709551616 : Nat) : Int) = 18446744073709551616 := rfl
  unfold shl
  rw [u64w, Int.toNat_natCast, show IntKind.u64.bits = 64 from rfl]
  by_cases h : n ≤ 64
  · rw [Nat.min_eq_left h, Int.natCast_emod, c, Int.natCast_mul, Int.natCast_pow]; rfl
  · rw [Nat.min_eq_right (by omega)]
    have h2 : a * 2 ^ n % 18446744073709551616 = 0 := by
      rw [show n = (n - 64) + 64 by omega, Nat.pow_add, ← Nat.mul_assoc]
      exact Nat.mul_mod_left ..
    rw [h2]
    have h3 : (a : Int) * 2 ^ 64 % 18446744073709551616 = 0 := Int.mul_emod_left ..
    rw [h3]; rfl
end Go.Proofs.Ytogldofffdiflaa.M
