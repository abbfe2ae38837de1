/- The sixth layer's reference: the string that parts seem to write, and the pattern that it joins; program and reference agree on any parts. -/
import Derived.Test.YtpdpggndhmnggaaF20f
import Derived.Test.YtpdpggndhmnggaaF0f
import Derived.Test.YtpdpggndhmnggaaCod3f
import Derived.Test.YtpdpggndhmnggaaF16f
namespace Go.Proofs.Ytpdpggndhmnggaa.M
open Go.RowKit Go.Proofs.YtpdpggndhmnggaaW.PrintWords Go.Proofs.YtpdpggndhmnggaaW.PrintLast Go.Proofs.YtpdpggndhmnggaaW.PrintMore Go.Proofs.Ytpdpggndhmnggaa.F
set_option linter.unusedVariables false
set_option linter.unusedSimpArgs false
/-- A run and the bit that ends it. -/
def hdN (ones : Bool) (r : Nat) : Nat := if ones = true then (2 ^ r - 1) * 2 else 1
end Go.Proofs.Ytpdpggndhmnggaa.M

namespace Go.Proofs.Ytpdpggndhmnggaa.M
open Go.RowKit Go.Proofs.YtpdpggndhmnggaaW.PrintWords Go.Proofs.YtpdpggndhmnggaaW.PrintLast Go.Proofs.YtpdpggndhmnggaaW.PrintMore Go.Proofs.Ytpdpggndhmnggaa.F
set_option linter.unusedVariables false
set_option linter.unusedSimpArgs false
/-- The run of a scale. -/
def runS (sc : Int) : Nat := if 0 ≤ sc / 4 then (sc / 4 + 1).toNat else (-(sc / 4)).toNat
theorem and3 (x : Int) : Go.bits .and .i64 x 3 = x % 4 := by
  simp only [bits]
  have h1 : (BitVec.ofInt IntKind.i64.bits x &&& BitVec.ofInt IntKind.i64.bits 3).toNat = (x % 4).toNat := by
    show (BitVec.ofInt 64 x &&& BitVec.ofInt 64 3).toNat = _
    rw [BitVec.toNat_and, BitVec.toNat_ofInt, BitVec.toNat_ofInt]
    rw [show ((3 : Int) % ((2 ^ 64 : Nat) : Int)).toNat = 2 ^ 2 - 1 from rfl, Nat.and_two_pow_sub_one_eq_mod]
    rw [show ((2 ^ 64 : Nat) : Int) = 18446744073709551616 from rfl, show (2 : Nat) ^ 2 = 4 from rfl]
    omega
  rw [h1]
  have h2 : 0 ≤ x % 4 ∧ x % 4 < 4 := by omega
  rw [Int.toNat_of_nonneg h2.1]
  simp [IntKind.wrap, IntKind.bits, IntKind.signed]
  omega
end Go.Proofs.Ytpdpggndhmnggaa.M

namespace Go.Proofs.Ytpdpggndhmnggaa.M
open Go.RowKit Go.Proofs.YtpdpggndhmnggaaW.PrintWords Go.Proofs.YtpdpggndhmnggaaW.PrintLast Go.Proofs.YtpdpggndhmnggaaW.PrintMore Go.Proofs.Ytpdpggndhmnggaa.F
set_option linter.unusedVariables false
set_option linter.unusedSimpArgs false
theorem kind_cases (n p : Nat) : (kindN n p = 0 ∧ p % 2 ^ n = 0) ∨ (kindN n p = 2 ∧ p % 2 ^ n = 2 ^ (n - 1)) ∨ kindN n p = 1 := by
  unfold kindN
  by_cases h0 : p % 2 ^ n = 0
  · rw [if_pos h0]; exact Or.inl ⟨rfl, h0⟩
  · rw [if_neg h0]
    by_cases h1 : p % 2 ^ n = 2 ^ (n - 1)
    · rw [if_pos h1]; exact Or.inr (Or.inl ⟨rfl, h1⟩)
    · rw [if_neg h1]; exact Or.inr (Or.inr rfl)
theorem means_real {ε : Type} {n p : Nat} (hk : kindN n p = 1) (e : ε) : meansT n p e = (1, topB p n, scI (abN n p) (n - 1), (mtN (abN n p) (n - 1) : Int), e) := by unfold meansT; rw [if_pos hk]
theorem mt_word {n p : Nat} (h : Wd n) : mtN (abN n p) (n - 1) < 18446744073709551616 := by
  have h1 := h.le
  have h2 := h.ge
  have := mtN_lt (x := abN n p) (w := n - 1) (by omega) (by omega)
  unfold mtN; omega
end Go.Proofs.Ytpdpggndhmnggaa.M
