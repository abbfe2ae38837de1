/- What the program's fifth layer computes at any number and pattern, and its reference: widths, folds, kinds, ranks, patterns. -/
import Derived.Test.YtpdpggndhmnggaaF10g
import Derived.Test.YtpdpggndhmnggaaF16g
import Derived.Test.YtpdpggndhmnggaaLead2g
namespace Go.Proofs.Ytpdpggndhmnggaa.M
open Go.RowKit Go.Proofs.YtpdpggndhmnggaaW.PrintWords Go.Proofs.YtpdpggndhmnggaaW.PrintLast Go.Proofs.YtpdpggndhmnggaaW.PrintMore Go.Proofs.Ytpdpggndhmnggaa.F
set_option linter.unusedVariables false
set_option linter.unusedSimpArgs false
/-- A width. -/
def Wd (n : Nat) : Prop := n = 8 ∨ n = 16 ∨ n = 32 ∨ n = 64
theorem Wd.le {n : Nat} (h : Wd n) : n ≤ 64 := by unfold Wd at h; omega
theorem Wd.ge {n : Nat} (h : Wd n) : 8 ≤ n := by unfold Wd at h; omega
theorem Wd.pos {n : Nat} (h : Wd n) : 0 < n := by unfold Wd at h; omega
/-- No width. -/
def NoW (a : Int) : Prop := a ≠ 8 ∧ a ≠ 16 ∧ a ≠ 32 ∧ a ≠ 64
theorem is_w {n : Nat} (h : Wd n) : shape_is.f (n : Int) = some true := by
  rcases h with rfl | rfl | rfl | rfl <;> rfl
theorem is_no {a : Int} (h : a ≠ 8 ∧ a ≠ 16 ∧ a ≠ 32 ∧ a ≠ 64) : shape_is.f a = some false := by
  unfold shape_is.f; rw [if_neg h.1, if_neg h.2.1, if_neg h.2.2.1, if_neg h.2.2.2]
theorem Fold_no {a p : Int} (h : a ≠ 8 ∧ a ≠ 16 ∧ a ≠ 32 ∧ a ≠ 64) : shape_Fold.f a p = some (0, some 2) := by unfold shape_Fold.f; rw [is_no h]; rfl
theorem Fold_eq {n p : Nat} (h : Wd n) (hp : p < 18446744073709551616) : shape_Fold.f (n : Int) (p : Int) = some (((p % 2 ^ n : Nat) : Int), none) := by
  unfold shape_Fold.f
  rw [is_w h]
  simp only [Option.bind_some, ↓reduceIte]
  rw [Mask_eq h.le]
  simp only [Option.bind_some]
  rw [and_mask hp h.le]
theorem shl_one {n : Nat} (h : n < 64) : shl .u64 1 (n : Int) = ((2 ^ n : Nat) : Int) := by
  have e := shl_nat 1 n
  have hlt : 2 ^ n < 18446744073709551616 := by rw [← p64']; exact Nat.pow_lt_pow_right (by decide) h
  rw [Nat.one_mul, Nat.mod_eq_of_lt hlt] at e
  exact e
theorem pred_w {n : Nat} (h : Wd n) : wrap64 ((n : Int) - 1) = ((n - 1 : Nat) : Int) := by have := h.le; have := h.pos; rw [w64 (by omega) (by omega)]; omega
theorem Of_eq {n : Nat} (h : Wd n) : shape_Of.f (n : Int) = some ((n : Int), ((2 ^ (n - 1) - 1 : Nat) : Int), 1, ((2 ^ (n - 1) : Nat) : Int), ((4 * n - 8 : Nat) : Int), none) := by
  have h1 := h.le
  have h2 := h.ge
  have hp := pow_le64 (show n - 1 ≤ 64 by omega)
  have hp0 : 0 < 2 ^ (n - 1) := Nat.pow_pos (by decide)
  unfold shape_Of.f
  rw [is_w h]
  simp only [Option.bind_some, ↓reduceIte]
  rw [pred_w h, if_pos (by omega), shl_one (by omega), u64s (by omega) (by omega), w64 (x := 4 * (n : Int)) (by omega) (by omega), w64 (by omega) (by omega)]
  congr 2
  congr 1
  · omega
  · congr 3; omega
/-- Zero, Real or NaR. -/
def kindN (n p : Nat) : Int := if p % 2 ^ n = 0 then 0 else if p % 2 ^ n = 2 ^ (n - 1) then 2 else 1
theorem Kind_no {a p : Int} (h : a ≠ 8 ∧ a ≠ 16 ∧ a ≠ 32 ∧ a ≠ 64) : shape_Kind.f a p = some (0, some 2) := by unfold shape_Kind.f; rw [Fold_no h]; rfl
theorem Kind_eq {n p : Nat} (h : Wd n) (hp : p < 18446744073709551616) : shape_Kind.f (n : Int) (p : Int) = some (kindN n p, none) := by
  have h1 := h.le
  have h2 := h.pos
  unfold shape_Kind.f kindN
  rw [Fold_eq h hp]
  simp only [Option.bind_some, Option.isNone_none, ↓reduceIte]
  rw [pred_w h, shl_one (by omega)]
  by_cases g1 : p % 2 ^ n = 0
  · rw [if_pos (by omega), if_pos g1]
  · rw [if_neg (by omega), if_neg g1, if_pos (by omega)]
    by_cases g2 : p % 2 ^ n = 2 ^ (n - 1)
    · rw [if_pos (by omega), if_pos g2]
    · rw [if_neg (by omega), if_neg g2]
theorem Rank_eq {n p : Nat} (h : Wd n) (hp : p < 18446744073709551616) : shape_Rank.f (n : Int) (p : Int) = some (ext p n, none) := by
  unfold shape_Rank.f
  rw [is_w h]
  simp only [Option.bind_some, ↓reduceIte]
  rw [Extend_eq hp h.pos h.le]
  rfl
theorem half_lt {n : Nat} (h : Wd n) : 2 ^ (n - 1) < 18446744073709551616 := by rw [← p64']; have := h.le; have := h.pos; exact Nat.pow_lt_pow_right (by decide) (by omega)
end Go.Proofs.Ytpdpggndhmnggaa.M
