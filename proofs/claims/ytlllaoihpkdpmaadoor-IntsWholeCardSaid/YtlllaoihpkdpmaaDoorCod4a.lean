/- The sixth layer's reference: the string that parts seem to write, and the pattern that it joins; program and reference agree on any parts. -/
import Derived.Test.YtlllaoihpkdpmaaDoorF14a
import Derived.Test.YtlllaoihpkdpmaaDoorF19a
import Derived.Test.YtlllaoihpkdpmaaDoorCod3a
namespace Go.Proofs.YtlllaoihpkdpmaaDoor.M
open Go.RowKit Go.Proofs.YtlllaoihpkdpmaaDoorW.PrintWords Go.Proofs.YtlllaoihpkdpmaaDoorW.PrintLast Go.Proofs.YtlllaoihpkdpmaaDoorW.PrintMore Go.Proofs.YtlllaoihpkdpmaaDoor.F
set_option linter.unusedVariables false
set_option linter.unusedSimpArgs false
theorem Fold06_ev {n a : Nat} (h : Wd n) (ha : a < 18446744073709551616) : Ev (fun k => vernierref06_Fold.f k (n : Int) (a : Int)) ((a % 2 ^ n : Nat) : Int) := by
  unfold vernierref06_Fold.f
  exact Ev.bind (Fold05_ev h ha) (Ev.now _)
theorem Neg06_ev {n a : Nat} (h : Wd n) (ha : a < 18446744073709551616) : Ev (fun k => vernierref06_Neg.f k (n : Int) (a : Int)) ((ngN a % 2 ^ n : Nat) : Int) := by
  unfold vernierref06_Neg.f
  rw [neg_word ha]
  exact Ev.bind (Fold06_ev h (ngN_lt a)) (Ev.now _)
theorem ones_tx (r : Nat) : List.replicate r (49 : Int) = tx (2 ^ r - 1) r := by
  induction r with
  | zero => rfl
  | succ r ih =>
    have hp : 0 < 2 ^ r := Nat.pow_pos (by decide)
    have e1 : (2 ^ (r + 1) - 1) / 2 ^ r % 2 = 1 := by
      rw [Nat.pow_succ, show 2 ^ r * 2 - 1 = 2 ^ r * 1 + (2 ^ r - 1) by omega, Nat.mul_add_div hp, Nat.div_eq_of_lt (by omega)]
    have e2 : (2 ^ (r + 1) - 1) % 2 ^ r = 2 ^ r - 1 := by
      rw [Nat.pow_succ, show 2 ^ r * 2 - 1 = 2 ^ r * 1 + (2 ^ r - 1) by omega, Nat.mul_add_mod, Nat.mod_eq_of_lt (by omega)]
    rw [List.replicate_succ, tx, e1, ih, ← tx_mod (2 ^ (r + 1) - 1) r r (Nat.le_refl _), e2]
    rfl
theorem zeros_tx (r : Nat) : List.replicate r (48 : Int) = tx 0 r := by
  induction r with
  | zero => rfl
  | succ r ih => rw [List.replicate_succ, tx, ih, Nat.zero_div]; rfl
/-- A run and the bit that ends it. -/
def hdN (ones : Bool) (r : Nat) : Nat := if ones = true then (2 ^ r - 1) * 2 else 1
theorem run_tx (ones : Bool) (r : Nat) : List.replicate r (if ones = true then (49 : Int) else 48) ++ [if ones = true then (48 : Int) else 49] = tx (hdN ones r) (r + 1) := by
  unfold hdN
  cases ones with
  | true =>
    have : [(48 : Int)] = tx 0 1 := rfl
    simp only [↓reduceIte]
    rw [ones_tx, this, tx_append]; rfl
  | false =>
    have : [(49 : Int)] = tx 1 1 := rfl
    simp only [Bool.false_eq_true, ↓reduceIte]
    rw [zeros_tx, this, tx_append, Nat.zero_mul]
end Go.Proofs.YtlllaoihpkdpmaaDoor.M
