/- What the program's fifth layer computes at any number and pattern, and its reference: widths, folds, kinds, ranks, patterns. -/
import Derived.Test.YtogldofffdiflaaF8b
import Derived.Test.YtogldofffdiflaaF10b
import Derived.Test.YtogldofffdiflaaLead2b
namespace Go.Proofs.Ytogldofffdiflaa.M
open Go.RowKit Go.Proofs.YtogldofffdiflaaW.PrintWords Go.Proofs.YtogldofffdiflaaW.PrintLast Go.Proofs.YtogldofffdiflaaW.PrintMore Go.Proofs.Ytogldofffdiflaa.F
set_option linter.unusedVariables false
set_option linter.unusedSimpArgs false
/-- A width. -/
def Wd (n : Nat) : Prop := n = 8 ∨ n = 16 ∨ n = 32 ∨ n = 64
theorem Wd.le {n : Nat} (h : Wd n) : n ≤ 64 := by unfold Wd at h; omega
theorem Wd.ge {n : Nat} (h : Wd n) : 8 ≤ n := by unfold Wd at h; omega
theorem Wd.pos {n : Nat} (h : Wd n) : 0 < n := by unfold Wd at h; omega
/-- A number is a width, or none. -/
theorem width_or (a : Int) : (∃ n : Nat, a = (n : Int) ∧ Wd n) ∨ (a ≠ 8 ∧ a ≠ 16 ∧ a ≠ 32 ∧ a ≠ 64) := by
  by_cases h : a = 8 ∨ a = 16 ∨ a = 32 ∨ a = 64
  · left
    refine ⟨a.toNat, by omega, ?_⟩
    unfold Wd; omega
  · right; omega
theorem is_w {n : Nat} (h : Wd n) : shape_is.f (n : Int) = some true := by
  rcases h with rfl | rfl | rfl | rfl <;> rfl
theorem is_no {a : Int} (h : a ≠ 8 ∧ a ≠ 16 ∧ a ≠ 32 ∧ a ≠ 64) : shape_is.f a = some false := by
  unfold shape_is.f; rw [if_neg h.1, if_neg h.2.1, if_neg h.2.2.1, if_neg h.2.2.2]
theorem Is_w {n : Nat} (h : Wd n) : vernierref05_Is.f (n : Int) = some true := by
  rcases h with rfl | rfl | rfl | rfl <;> rfl
theorem Is_no {a : Int} (h : a ≠ 8 ∧ a ≠ 16 ∧ a ≠ 32 ∧ a ≠ 64) : vernierref05_Is.f a = some false := by
  unfold vernierref05_Is.f
  rw [if_neg h.1, if_neg h.2.1, if_neg h.2.2.1]
  congr 1
  rw [beq_eq_false_iff_ne]; exact h.2.2.2
theorem Fold_eq {n p : Nat} (h : Wd n) (hp : p < 18446744073709551616) : shape_Fold.f (n : Int) (p : Int) = some (((p % 2 ^ n : Nat) : Int), none) := by
  unfold shape_Fold.f
  rw [is_w h]
  simp only [Option.bind_some, ↓reduceIte]
  rw [Mask_eq h.le]
  simp only [Option.bind_some]
  rw [and_mask hp h.le]
theorem shl_one {n : Nat} (h : n < 64) : shl .u64 1 (n : Int) = ((2 ^ n : Nat) : Int) := by
  have e := shl_nat 1 n
  have hlt : 2 ^ n < 18446744073709551616 := by rw [← p64']; exact Nat.pow_lt_pow_right (by decide) h
  rw [Nat.one_mul, Nat.mod_eq_of_lt hlt] at e
  exact e
theorem Of_no {a : Int} (h : a ≠ 8 ∧ a ≠ 16 ∧ a ≠ 32 ∧ a ≠ 64) : shape_Of.f a = some (0, 0, 0, 0, 0, some 2) := by unfold shape_Of.f; rw [is_no h]; rfl
theorem pred_w {n : Nat} (h : Wd n) : wrap64 ((n : Int) - 1) = ((n - 1 : Nat) : Int) := by have := h.le; have := h.pos; rw [w64 (by omega) (by omega)]; omega
theorem Of_eq {n : Nat} (h : Wd n) : shape_Of.f (n : Int) = some ((n : Int), ((2 ^ (n - 1) - 1 : Nat) : Int), 1, ((2 ^ (n - 1) : Nat) : Int), ((4 * n - 8 : Nat) : Int), none) := by
  have h1 := h.le
  have h2 := h.ge
  have hp := pow_le64 (show n - 1 ≤ 64 by omega)
  have hp0 : 0 < 2 ^ (n - 1) := Nat.pow_pos (by decide)
  unfold shape_Of.f
  rw [is_w h]
  simp only [Option.bind_some, ↓reduceIte]
  rw [pred_w h, if_pos (by omega), shl_one (by omega), u64s (by omega) (by omega), w64 (x := 4 * (n : Int)) (by omega) (by omega), w64 (by omega) (by omega)]
  congr 2
  congr 1
  · omega
  · congr 3; omega
theorem Power_l0 {n : Nat} (hn : n ≤ 63) : ∀ d i : Nat, n - i ≤ d → i ≤ n → Ev (fun k => vernierref05_Power.l0 k (n : Int) ((2 ^ i : Nat) : Int) (i : Int)) ((2 ^ n : Nat) : Int) := by
  intro d
  induction d with
  | zero =>
    intro i hd hi
    obtain rfl : i = n := by omega
    refine Ev.step (f := fun _ => some ((2 ^ i : Nat) : Int)) (fun k => ?_) (Ev.now _)
    simp only [vernierref05_Power.l0]; rw [if_neg (by omega)]
  | succ d ih =>
    intro i hd hi
    by_cases h : i < n
    · refine Ev.step (f := fun k => vernierref05_Power.l0 k (n : Int) ((2 ^ (i + 1) : Nat) : Int) ((i + 1 : Nat) : Int)) (fun k => ?_) (ih (i + 1) (by omega) (by omega))
      have hlt : 2 ^ (i + 1) < 18446744073709551616 := by rw [← p64']; exact Nat.pow_lt_pow_right (by decide) (by omega)
      simp only [vernierref05_Power.l0]
      rw [if_pos (by omega), w64 (by omega) (by omega)]
      rw [Nat.pow_succ] at hlt ⊢
      generalize 2 ^ i = p at *
      rw [u64s (by omega) (by omega)]
      congr 1
      omega
    · exact ih i (by omega) hi
theorem Power_ev {n : Nat} (hn : n ≤ 63) : Ev (fun k => vernierref05_Power.f k (n : Int)) ((2 ^ n : Nat) : Int) := Power_l0 hn n 0 (by omega) (by omega)
theorem Of05_no {a : Int} (h : a ≠ 8 ∧ a ≠ 16 ∧ a ≠ 32 ∧ a ≠ 64) : Ev (fun k => vernierref05_Of.f k a) (0, 0, 0, 0, 0, 2) := by unfold vernierref05_Of.f; rw [Is_no h]; exact Ev.now _
theorem Of05_ev {n : Nat} (h : Wd n) : Ev (fun k => vernierref05_Of.f k (n : Int)) ((n : Int), ((2 ^ (n - 1) - 1 : Nat) : Int), 1, ((2 ^ (n - 1) : Nat) : Int), ((4 * n - 8 : Nat) : Int), 0) := by
  have h1 := h.le
  have h2 := h.ge
  have hp := pow_le64 (show n - 1 ≤ 64 by omega)
  have hp0 : 0 < 2 ^ (n - 1) := Nat.pow_pos (by decide)
  unfold vernierref05_Of.f
  rw [Is_w h]
  simp only [Option.bind_some, ↓reduceIte, pred_w h]
  refine Ev.bind (Power_ev (by omega)) ?_
  rw [u64s (by omega) (by omega), w64 (x := 4 * (n : Int)) (by omega) (by omega), w64 (by omega) (by omega), show ((2 ^ (n - 1) : Nat) : Int) - 1 = ((2 ^ (n - 1) - 1 : Nat) : Int) by omega, show 4 * (n : Int) - 8 = ((4 * n - 8 : Nat) : Int) by omega]
  exact Ev.now _
/-- A signed number as a word. -/
def asW (r : Int) : Nat := (r % 18446744073709551616).toNat
theorem asW_lt (r : Int) : asW r < 18446744073709551616 := by unfold asW; omega
theorem u64_asW (r : Int) : IntKind.u64.wrap r = (asW r : Int) := by rw [u64w]; unfold asW; omega
theorem ext_mod (p n : Nat) : ext (p % 2 ^ n) n = ext p n := by unfold ext; rw [Nat.mod_mod]
theorem Pattern_eq {n : Nat} {r : Int} (h : Wd n) : shape_Pattern.f (n : Int) r = some (if ext (asW r) n = r then (((asW r % 2 ^ n : Nat) : Int), none) else (0, some 1)) := by
  unfold shape_Pattern.f
  have hl : asW r % 2 ^ n < 18446744073709551616 := Nat.lt_of_le_of_lt (Nat.mod_le _ _) (asW_lt r)
  rw [u64_asW, Fold_eq h (asW_lt r)]
  simp only [Option.bind_some, Option.isNone_none, ↓reduceIte]
  rw [Extend_eq hl h.pos h.le, ext_mod]
  simp only [Option.bind_some]
  split <;> rfl
end Go.Proofs.Ytogldofffdiflaa.M
