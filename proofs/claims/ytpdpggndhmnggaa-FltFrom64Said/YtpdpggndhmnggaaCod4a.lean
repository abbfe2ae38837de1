/- What the program's sixth layer makes of parts, and its reference: a pattern that has just these parts, where there is one. -/
import Derived.Test.YtpdpggndhmnggaaF0a
import Derived.Test.YtpdpggndhmnggaaCod2a
import Derived.Test.YtpdpggndhmnggaaF20a
import Derived.Test.YtpdpggndhmnggaaF22a
namespace Go.Proofs.Ytpdpggndhmnggaa.M
open Go.RowKit Go.Proofs.YtpdpggndhmnggaaW.PrintWords Go.Proofs.YtpdpggndhmnggaaW.PrintLast Go.Proofs.YtpdpggndhmnggaaW.PrintMore Go.Proofs.Ytpdpggndhmnggaa.F
set_option linter.unusedVariables false
set_option linter.unusedSimpArgs false
/-- A size with its sign is the pattern. -/
def signN (n : Nat) (neg : Bool) (m : Nat) : Nat := if neg = true then ngN m % 2 ^ n else m
/-- The parts of a Real. -/
abbrev F8 := Bool × Bool × Int × Int × Int × Int × Int × Int
noncomputable instance F8.dec (a b : F8) : Decidable (a = b) := Classical.propDecidable (a = b)
def F8.with {ε : Type} (f : F8) (e : ε) : Bool × Bool × Int × Int × Int × Int × Int × Int × ε := (f.1, f.2.1, f.2.2.1, f.2.2.2.1, f.2.2.2.2.1, f.2.2.2.2.2.1, f.2.2.2.2.2.2.1, f.2.2.2.2.2.2.2, e)
/-- May these parts be? -/
def okF (n : Nat) (f : F8) : Prop := 1 ≤ f.2.2.1 ∧ f.2.2.1 ≤ (n : Int) - 1 ∧ 0 ≤ f.2.2.2.2.1 ∧ f.2.2.2.2.1 ≤ 2 ∧ 0 ≤ f.2.2.2.2.2.1 ∧ f.2.2.2.2.2.1 ≤ 3 ∧ 0 ≤ f.2.2.2.2.2.2.1 ∧ f.2.2.2.2.2.2.1 ≤ (n : Int)
end Go.Proofs.Ytpdpggndhmnggaa.M

namespace Go.Proofs.Ytpdpggndhmnggaa.M
open Go.RowKit Go.Proofs.YtpdpggndhmnggaaW.PrintWords Go.Proofs.YtpdpggndhmnggaaW.PrintLast Go.Proofs.YtpdpggndhmnggaaW.PrintMore Go.Proofs.Ytpdpggndhmnggaa.F
set_option linter.unusedVariables false
set_option linter.unusedSimpArgs false
theorem Fold06_ev {n a : Nat} (h : Wd n) (ha : a < 18446744073709551616) : Ev (fun k => vernierref06_Fold.f k (n : Int) (a : Int)) ((a % 2 ^ n : Nat) : Int) := by
  unfold vernierref06_Fold.f
  exact Ev.bind (Fold05_ev h ha) (Ev.now _)
theorem Neg06_ev {n a : Nat} (h : Wd n) (ha : a < 18446744073709551616) : Ev (fun k => vernierref06_Neg.f k (n : Int) (a : Int)) ((ngN a % 2 ^ n : Nat) : Int) := by
  unfold vernierref06_Neg.f
  rw [neg_word ha]
  exact Ev.bind (Fold06_ev h (ngN_lt a)) (Ev.now _)
theorem ones_tx (r : Nat) : List.replicate r (49 : Int) = tx (2 ^ r - 1) r := by
  induction r with
  | zero => rfl
  | succ r ih =>
    have hp : 0 < 2 ^ r := Nat.pow_pos (by decide)
    have e1 : (2 ^ (r + 1) - 1) / 2 ^ r % 2 = 1 := by
      rw [Nat.pow_succ, show 2 ^ r * 2 - 1 = 2 ^ r * 1 + (2 ^ r - 1) by omega, Nat.mul_add_div hp, Nat.div_eq_of_lt (by omega)]
    have e2 : (2 ^ (r + 1) - 1) % 2 ^ r = 2 ^ r - 1 := by
      rw [Nat.pow_succ, show 2 ^ r * 2 - 1 = 2 ^ r * 1 + (2 ^ r - 1) by omega, Nat.mul_add_mod, Nat.mod_eq_of_lt (by omega)]
    rw [List.replicate_succ, tx, e1, ih, ← tx_mod (2 ^ (r + 1) - 1) r r (Nat.le_refl _), e2]
    rfl
theorem zeros_tx (r : Nat) : List.replicate r (48 : Int) = tx 0 r := by
  induction r with
  | zero => rfl
  | succ r ih => rw [List.replicate_succ, tx, ih, Nat.zero_div]; rfl
/-- A run and the bit that ends it. -/
def hdN (ones : Bool) (r : Nat) : Nat := if ones = true then (2 ^ r - 1) * 2 else 1
theorem run_tx (ones : Bool) (r : Nat) : List.replicate r (if ones = true then (49 : Int) else 48) ++ [if ones = true then (48 : Int) else 49] = tx (hdN ones r) (r + 1) := by
  unfold hdN
  cases ones with
  | true =>
    have : [(48 : Int)] = tx 0 1 := rfl
    simp only [↓reduceIte]
    rw [ones_tx, this, tx_append]; rfl
  | false =>
    have : [(49 : Int)] = tx 1 1 := rfl
    simp only [Bool.false_eq_true, ↓reduceIte]
    rw [zeros_tx, this, tx_append, Nat.zero_mul]
end Go.Proofs.Ytpdpggndhmnggaa.M
