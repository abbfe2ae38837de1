/- What the program's sixth layer makes of parts, and its reference: a pattern that has just these parts, where there is one. -/
import Derived.Test.YtpdpggndhmnggaaF0d
import Derived.Test.YtpdpggndhmnggaaCod2d
import Derived.Test.YtpdpggndhmnggaaF20d
import Derived.Test.YtpdpggndhmnggaaF22d
import Derived.Test.YtpdpggndhmnggaaF16d
namespace Go.Proofs.Ytpdpggndhmnggaa.M
open Go.RowKit Go.Proofs.YtpdpggndhmnggaaW.PrintWords Go.Proofs.YtpdpggndhmnggaaW.PrintLast Go.Proofs.YtpdpggndhmnggaaW.PrintMore Go.Proofs.Ytpdpggndhmnggaa.F
set_option linter.unusedVariables false
set_option linter.unusedSimpArgs false
/-- A size with its sign is the pattern. -/
def signN (n : Nat) (neg : Bool) (m : Nat) : Nat := if neg = true then ngN m % 2 ^ n else m
/-- The parts of a Real. -/
abbrev F8 := Bool × Bool × Int × Int × Int × Int × Int × Int
noncomputable instance F8.dec (a b : F8) : Decidable (a = b) := Classical.propDecidable (a = b)
def F8.with {ε : Type} (f : F8) (e : ε) : Bool × Bool × Int × Int × Int × Int × Int × Int × ε := (f.1, f.2.1, f.2.2.1, f.2.2.2.1, f.2.2.2.2.1, f.2.2.2.2.2.1, f.2.2.2.2.2.2.1, f.2.2.2.2.2.2.2, e)
/-- May these parts be? -/
def okF (n : Nat) (f : F8) : Prop := 1 ≤ f.2.2.1 ∧ f.2.2.1 ≤ (n : Int) - 1 ∧ 0 ≤ f.2.2.2.2.1 ∧ f.2.2.2.2.1 ≤ 2 ∧ 0 ≤ f.2.2.2.2.2.1 ∧ f.2.2.2.2.2.1 ≤ 3 ∧ 0 ≤ f.2.2.2.2.2.2.1 ∧ f.2.2.2.2.2.2.1 ≤ (n : Int)
end Go.Proofs.Ytpdpggndhmnggaa.M

namespace Go.Proofs.Ytpdpggndhmnggaa.M
open Go.RowKit Go.Proofs.YtpdpggndhmnggaaW.PrintWords Go.Proofs.YtpdpggndhmnggaaW.PrintLast Go.Proofs.YtpdpggndhmnggaaW.PrintMore Go.Proofs.Ytpdpggndhmnggaa.F
set_option linter.unusedVariables false
set_option linter.unusedSimpArgs false
theorem Fold06_ev {n a : Nat} (h : Wd n) (ha : a < 18446744073709551616) : Ev (fun k => vernierref06_Fold.f k (n : Int) (a : Int)) ((a % 2 ^ n : Nat) : Int) := by
  unfold vernierref06_Fold.f
  exact Ev.bind (Fold05_ev h ha) (Ev.now _)
theorem Neg06_ev {n a : Nat} (h : Wd n) (ha : a < 18446744073709551616) : Ev (fun k => vernierref06_Neg.f k (n : Int) (a : Int)) ((ngN a % 2 ^ n : Nat) : Int) := by
  unfold vernierref06_Neg.f
  rw [neg_word ha]
  exact Ev.bind (Fold06_ev h (ngN_lt a)) (Ev.now _)
theorem ones_tx (r : Nat) : List.replicate r (49 : Int) = tx (2 ^ r - 1) r := by
  induction r with
  | zero => rfl
  | succ r ih =>
    have hp : 0 < 2 ^ r := Nat.pow_pos (by decide)
    have e1 : (2 ^ (r + 1) - 1) / 2 ^ r % 2 = 1 := by
      rw [Nat.pow_succ, show 2 ^ r * 2 - 1 = 2 ^ r * 1 + (2 ^ r - 1) by omega, Nat.mul_add_div hp, Nat.div_eq_of_lt (by omega)]
    have e2 : (2 ^ (r + 1) - 1) % 2 ^ r = 2 ^ r - 1 := by
      rw [Nat.pow_succ, show 2 ^ r * 2 - 1 = 2 ^ r * 1 + (2 ^ r - 1) by omega, Nat.mul_add_mod, Nat.mod_eq_of_lt (by omega)]
    rw [List.replicate_succ, tx, e1, ih, ← tx_mod (2 ^ (r + 1) - 1) r r (Nat.le_refl _), e2]
    rfl
theorem zeros_tx (r : Nat) : List.replicate r (48 : Int) = tx 0 r := by
  induction r with
  | zero => rfl
  | succ r ih => rw [List.replicate_succ, tx, ih, Nat.zero_div]; rfl
/-- A run and the bit that ends it. -/
def hdN (ones : Bool) (r : Nat) : Nat := if ones = true then (2 ^ r - 1) * 2 else 1
theorem run_tx (ones : Bool) (r : Nat) : List.replicate r (if ones = true then (49 : Int) else 48) ++ [if ones = true then (48 : Int) else 49] = tx (hdN ones r) (r + 1) := by
  unfold hdN
  cases ones with
  | true =>
    have : [(48 : Int)] = tx 0 1 := rfl
    simp only [↓reduceIte]
    rw [ones_tx, this, tx_append]; rfl
  | false =>
    have : [(49 : Int)] = tx 1 1 := rfl
    simp only [Bool.false_eq_true, ↓reduceIte]
    rw [zeros_tx, this, tx_append, Nat.zero_mul]
end Go.Proofs.Ytpdpggndhmnggaa.M

namespace Go.Proofs.Ytpdpggndhmnggaa.M
open Go.RowKit Go.Proofs.YtpdpggndhmnggaaW.PrintWords Go.Proofs.YtpdpggndhmnggaaW.PrintLast Go.Proofs.YtpdpggndhmnggaaW.PrintMore Go.Proofs.Ytpdpggndhmnggaa.F
set_option linter.unusedVariables false
set_option linter.unusedSimpArgs false
/-- The run of a scale. -/
def runS (sc : Int) : Nat := if 0 ≤ sc / 4 then (sc / 4 + 1).toNat else (-(sc / 4)).toNat
theorem and3 (x : Int) : Go.bits .and .i64 x 3 = x % 4 := by
  simp only [bits]
  have h1 : (BitVec.ofInt IntKind.i64.bits x &&& BitVec.ofInt IntKind.i64.bits 3).toNat = (x % 4).toNat := by
    show (BitVec.ofInt 64 x &&& BitVec.ofInt 64 3).toNat = _
    rw [BitVec.toNat_and, BitVec.toNat_ofInt, BitVec.toNat_ofInt]
    rw [show ((3 : Int) % ((2 ^ 64 : Nat) : Int)).toNat = 2 ^ 2 - 1 from rfl, Nat.and_two_pow_sub_one_eq_mod]
    rw [show ((2 ^ 64 : Nat) : Int) = 18446744073709551616 from rfl, show (2 : Nat) ^ 2 = 4 from rfl]
    omega
  rw [h1]
  have h2 : 0 ≤ x % 4 ∧ x % 4 < 4 := by omega
  rw [Int.toNat_of_nonneg h2.1]
  simp [IntKind.wrap, IntKind.bits, IntKind.signed]
  omega
end Go.Proofs.Ytpdpggndhmnggaa.M

namespace Go.Proofs.Ytpdpggndhmnggaa.M
open Go.RowKit Go.Proofs.YtpdpggndhmnggaaW.PrintWords Go.Proofs.YtpdpggndhmnggaaW.PrintLast Go.Proofs.YtpdpggndhmnggaaW.PrintMore Go.Proofs.Ytpdpggndhmnggaa.F
set_option linter.unusedVariables false
set_option linter.unusedSimpArgs false
theorem kind_cases (n p : Nat) : (kindN n p = 0 ∧ p % 2 ^ n = 0) ∨ (kindN n p = 2 ∧ p % 2 ^ n = 2 ^ (n - 1)) ∨ kindN n p = 1 := by
  unfold kindN
  by_cases h0 : p % 2 ^ n = 0
  · rw [if_pos h0]; exact Or.inl ⟨rfl, h0⟩
  · rw [if_neg h0]
    by_cases h1 : p % 2 ^ n = 2 ^ (n - 1)
    · rw [if_pos h1]; exact Or.inr (Or.inl ⟨rfl, h1⟩)
    · rw [if_neg h1]; exact Or.inr (Or.inr rfl)
theorem means_real {ε : Type} {n p : Nat} (hk : kindN n p = 1) (e : ε) : meansT n p e = (1, topB p n, scI (abN n p) (n - 1), (mtN (abN n p) (n - 1) : Int), e) := by unfold meansT; rw [if_pos hk]
theorem mt_word {n p : Nat} (h : Wd n) : mtN (abN n p) (n - 1) < 18446744073709551616 := by
  have h1 := h.le
  have h2 := h.ge
  have := mtN_lt (x := abN n p) (w := n - 1) (by omega) (by omega)
  unfold mtN; omega
end Go.Proofs.Ytpdpggndhmnggaa.M
