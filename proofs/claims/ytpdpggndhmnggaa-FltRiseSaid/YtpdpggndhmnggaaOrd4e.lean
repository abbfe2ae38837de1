/- The order of ranks is the order of values, NaR apart: by signs, scales and fractions. (For OrderValues.) -/
import Derived.Test.YtpdpggndhmnggaaF13e
import Derived.Test.YtpdpggndhmnggaaOrd2e
import Derived.Test.YtpdpggndhmnggaaCod3e
import Derived.Test.YtpdpggndhmnggaaF29e
namespace Go.Proofs.Ytpdpggndhmnggaa.M
set_option linter.unusedVariables false
set_option linter.unusedSimpArgs false
/-- A rank by the pattern's size and sign. -/
theorem ext_abs {n p : Nat} (h : Wd n) (hp : p < 18446744073709551616) (hk : kindN n p = 1) : ext p n = if topB p n = true then -((abN n p % 2 ^ (n - 1) : Nat) : Int) else ((abN n p % 2 ^ (n - 1) : Nat) : Int) := by
  have h1 : p % 2 ^ n ≠ 0 := by intro g; unfold kindN at hk; rw [if_pos g] at hk; omega
  have h2 : p % 2 ^ n ≠ 2 ^ (n - 1) := by intro g; unfold kindN at hk; rw [if_neg h1, if_pos g] at hk; omega
  unfold ext abN
  by_cases ht : topB p n = true
  · rw [if_pos ht, if_pos ht]
    unfold topB at ht
    rw [decide_eq_true_eq] at ht
    rw [if_pos ht]
    unfold ngN
    rcases h with rfl | rfl | rfl | rfl <;> simp only [Nat.reducePow, Nat.reduceSub] at * <;> omega
  · rw [if_neg ht, if_neg ht]
    unfold topB at ht
    rw [decide_eq_true_eq] at ht
    rw [if_neg ht]
    rcases h with rfl | rfl | rfl | rfl <;> simp only [Nat.reducePow, Nat.reduceSub] at * <;> omega
theorem ext_zero {n p : Nat} (h : Wd n) (hk : kindN n p = 0) : ext p n = 0 := by
  have h1 : p % 2 ^ n = 0 := by
    unfold kindN at hk
    by_cases g : p % 2 ^ n = 0
    · exact g
    · rw [if_neg g] at hk; split at hk <;> omega
  have hp : 0 < 2 ^ (n - 1) := Nat.pow_pos (by decide)
  unfold ext
  rw [h1, if_neg (by omega)]; rfl
def szN (n p : Nat) : Nat := abN n p % 2 ^ (n - 1)
theorem sz_val {n p q : Nat} (h : Wd n) : (szN n p < szN n q → scI (abN n p) (n - 1) < scI (abN n q) (n - 1) ∨ (scI (abN n p) (n - 1) = scI (abN n q) (n - 1) ∧ mtN (abN n p) (n - 1) < mtN (abN n q) (n - 1))) ∧
    (szN n p = szN n q → scI (abN n p) (n - 1) = scI (abN n q) (n - 1) ∧ mtN (abN n p) (n - 1) = mtN (abN n q) (n - 1)) := by
  have h1 := h.le
  have h2 := h.ge
  constructor
  · intro hl; exact val_lt (by omega) (by omega) hl
  · intro he
    unfold szN at he
    unfold scI mtN
    rw [rg_congr he, exN_congr he, fb_congr he, frN_congr he]
    exact ⟨rfl, rfl⟩
end Go.Proofs.Ytpdpggndhmnggaa.M

namespace Go.Proofs.Ytpdpggndhmnggaa.M
open Go.RowKit Go.Proofs.YtpdpggndhmnggaaW.PrintWords Go.Proofs.YtpdpggndhmnggaaW.PrintLast Go.Proofs.YtpdpggndhmnggaaW.PrintMore Go.Proofs.Ytpdpggndhmnggaa.F
set_option linter.unusedVariables false
set_option linter.unusedSimpArgs false
theorem oCmp_v {n a b : Nat} (h : Wd n) (ha : a < 18446744073709551616) (hb : b < 18446744073709551616) : order_Cmp.f (n : Int) (a : Int) (b : Int) = some ((if ext a n < ext b n then -1 else if ext a n > ext b n then 1 else 0), none) := by
  unfold order_Cmp.f
  rw [Rank_eq h ha]
  simp only [Option.bind_some, Option.isNone_none, ↓reduceIte]
  rw [Rank_eq h hb]
  simp only [Option.bind_some]
  split
  · rfl
  · split <;> rfl
end Go.Proofs.Ytpdpggndhmnggaa.M
