/- What the program's sixth layer makes of parts, and its reference: a pattern that has just these parts, where there is one. -/
import Derived.Test.YtpdpggndhmnggaaF0e
import Derived.Test.YtpdpggndhmnggaaCod2e
namespace Go.Proofs.Ytpdpggndhmnggaa.M
open Go.RowKit Go.Proofs.YtpdpggndhmnggaaW.PrintWords Go.Proofs.YtpdpggndhmnggaaW.PrintLast Go.Proofs.YtpdpggndhmnggaaW.PrintMore Go.Proofs.Ytpdpggndhmnggaa.F
set_option linter.unusedVariables false
set_option linter.unusedSimpArgs false
/-- The parts are told by the lowest bits alone. -/
theorem run_congr {x y w : Nat} (h : x % 2 ^ w = y % 2 ^ w) : runN x w = runN y w := by unfold runN left; rw [h]
theorem top_congr {x y w : Nat} (h : x % 2 ^ w = y % 2 ^ w) : topB x w = topB y w := by unfold topB; rw [h]
theorem lf_congr {x y w : Nat} (h : x % 2 ^ w = y % 2 ^ w) : lfN x w = lfN y w := by unfold lfN; rw [run_congr h]
theorem eb_congr {x y w : Nat} (h : x % 2 ^ w = y % 2 ^ w) : ebN x w = ebN y w := by unfold ebN; rw [lf_congr h]
theorem fb_congr {x y w : Nat} (h : x % 2 ^ w = y % 2 ^ w) : fbN x w = fbN y w := by unfold fbN; rw [lf_congr h, eb_congr h]
theorem tail_congr {x y w : Nat} (h : x % 2 ^ w = y % 2 ^ w) : x % 2 ^ lfN x w = y % 2 ^ lfN y w := by
  have hl : lfN x w ≤ w := by unfold lfN; omega
  rw [← mod_pow_mod x hl, h, lf_congr h, mod_pow_mod y (by rw [← lf_congr h]; exact hl)]
theorem eN_tail (x w : Nat) : eN x w = x % 2 ^ lfN x w / 2 ^ fbN x w := by
  rw [tail_split, Nat.mul_comm, Nat.mul_add_div (Nat.pow_pos (by decide)), Nat.div_eq_of_lt (frN_lt x w), Nat.add_zero]
theorem frN_tail (x w : Nat) : frN x w = x % 2 ^ lfN x w % 2 ^ fbN x w := by
  rw [tail_split, Nat.mul_comm, Nat.mul_add_mod, Nat.mod_eq_of_lt (frN_lt x w)]
theorem eN_congr {x y w : Nat} (h : x % 2 ^ w = y % 2 ^ w) : eN x w = eN y w := by rw [eN_tail, eN_tail, tail_congr h, fb_congr h]
theorem frN_congr {x y w : Nat} (h : x % 2 ^ w = y % 2 ^ w) : frN x w = frN y w := by rw [frN_tail, frN_tail, tail_congr h, fb_congr h]
theorem exN_congr {x y w : Nat} (h : x % 2 ^ w = y % 2 ^ w) : exN x w = exN y w := by unfold exN; rw [eN_congr h, eb_congr h]
theorem rg_congr {x y w : Nat} (h : x % 2 ^ w = y % 2 ^ w) : rgI x w = rgI y w := by unfold rgI; rw [top_congr h, run_congr h]
theorem mod_lt64 {n : Nat} (h : Wd n) (a : Nat) : a % 2 ^ n < 18446744073709551616 := Nat.lt_of_lt_of_le (Nat.mod_lt _ (Nat.pow_pos (by decide))) (pow_le64 h.le)
/-- A size with its sign is the pattern. -/
def signN (n : Nat) (neg : Bool) (m : Nat) : Nat := if neg = true then ngN m % 2 ^ n else m
theorem sign_lt {n : Nat} (h : Wd n) (b : Bool) {m : Nat} (hm : m < 18446744073709551616) : signN n b m < 18446744073709551616 := by unfold signN; split; exact mod_lt64 h _; exact hm
theorem ab_pos {n p : Nat} (h : Wd n) (hp : p < 18446744073709551616) (hk : kindN n p = 1) : 0 < abN n p % 2 ^ (n - 1) := by
  have h1 : p % 2 ^ n ≠ 0 := by intro g; unfold kindN at hk; rw [if_pos g] at hk; omega
  have h2 : p % 2 ^ n ≠ 2 ^ (n - 1) := by intro g; unfold kindN at hk; rw [if_neg h1, if_pos g] at hk; omega
  unfold abN
  by_cases ht : topB p n = true
  · rw [if_pos ht]
    unfold topB at ht
    rw [decide_eq_true_eq] at ht
    unfold ngN
    rcases h with rfl | rfl | rfl | rfl <;> simp only [Nat.reducePow, Nat.reduceSub] at * <;> omega
  · rw [if_neg ht]
    unfold topB at ht
    rw [decide_eq_true_eq] at ht
    rcases h with rfl | rfl | rfl | rfl <;> simp only [Nat.reducePow, Nat.reduceSub] at * <;> omega
/-- The parts of a Real. -/
abbrev F8 := Bool × Bool × Int × Int × Int × Int × Int × Int
noncomputable instance F8.dec (a b : F8) : Decidable (a = b) := Classical.propDecidable (a = b)
def F8.with {ε : Type} (f : F8) (e : ε) : Bool × Bool × Int × Int × Int × Int × Int × Int × ε := (f.1, f.2.1, f.2.2.1, f.2.2.2.1, f.2.2.2.2.1, f.2.2.2.2.2.1, f.2.2.2.2.2.2.1, f.2.2.2.2.2.2.2, e)
/-- May these parts be? -/
def okF (n : Nat) (f : F8) : Prop := 1 ≤ f.2.2.1 ∧ f.2.2.1 ≤ (n : Int) - 1 ∧ 0 ≤ f.2.2.2.2.1 ∧ f.2.2.2.2.1 ≤ 2 ∧ 0 ≤ f.2.2.2.2.2.1 ∧ f.2.2.2.2.2.1 ≤ 3 ∧ 0 ≤ f.2.2.2.2.2.2.1 ∧ f.2.2.2.2.2.2.1 ≤ (n : Int)
end Go.Proofs.Ytpdpggndhmnggaa.M
