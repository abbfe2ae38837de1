/- What the program's sixth layer makes of parts, and its reference: a pattern that has just these parts, where there is one. -/
import Derived.Test.YtpdpggndhmnggaaF0g
import Derived.Test.YtpdpggndhmnggaaCod2g
import Derived.Test.YtpdpggndhmnggaaF20g
import Derived.Test.YtpdpggndhmnggaaF16g
namespace Go.Proofs.Ytpdpggndhmnggaa.M
open Go.RowKit Go.Proofs.YtpdpggndhmnggaaW.PrintWords Go.Proofs.YtpdpggndhmnggaaW.PrintLast Go.Proofs.YtpdpggndhmnggaaW.PrintMore Go.Proofs.Ytpdpggndhmnggaa.F
set_option linter.unusedVariables false
set_option linter.unusedSimpArgs false
/-- The parts are told by the lowest bits alone. -/
theorem run_congr {x y w : Nat} (h : x % 2 ^ w = y % 2 ^ w) : runN x w = runN y w := by unfold runN left; rw [h]
theorem top_congr {x y w : Nat} (h : x % 2 ^ w = y % 2 ^ w) : topB x w = topB y w := by unfold topB; rw [h]
theorem lf_congr {x y w : Nat} (h : x % 2 ^ w = y % 2 ^ w) : lfN x w = lfN y w := by unfold lfN; rw [run_congr h]
theorem eb_congr {x y w : Nat} (h : x % 2 ^ w = y % 2 ^ w) : ebN x w = ebN y w := by unfold ebN; rw [lf_congr h]
theorem fb_congr {x y w : Nat} (h : x % 2 ^ w = y % 2 ^ w) : fbN x w = fbN y w := by unfold fbN; rw [lf_congr h, eb_congr h]
theorem tail_congr {x y w : Nat} (h : x % 2 ^ w = y % 2 ^ w) : x % 2 ^ lfN x w = y % 2 ^ lfN y w := by
  have hl : lfN x w ≤ w := by unfold lfN; omega
  rw [← mod_pow_mod x hl, h, lf_congr h, mod_pow_mod y (by rw [← lf_congr h]; exact hl)]
theorem eN_tail (x w : Nat) : eN x w = x % 2 ^ lfN x w / 2 ^ fbN x w := by
  rw [tail_split, Nat.mul_comm, Nat.mul_add_div (Nat.pow_pos (by decide)), Nat.div_eq_of_lt (frN_lt x w), Nat.add_zero]
theorem frN_tail (x w : Nat) : frN x w = x % 2 ^ lfN x w % 2 ^ fbN x w := by
  rw [tail_split, Nat.mul_comm, Nat.mul_add_mod, Nat.mod_eq_of_lt (frN_lt x w)]
theorem eN_congr {x y w : Nat} (h : x % 2 ^ w = y % 2 ^ w) : eN x w = eN y w := by rw [eN_tail, eN_tail, tail_congr h, fb_congr h]
theorem frN_congr {x y w : Nat} (h : x % 2 ^ w = y % 2 ^ w) : frN x w = frN y w := by rw [frN_tail, frN_tail, tail_congr h, fb_congr h]
theorem exN_congr {x y w : Nat} (h : x % 2 ^ w = y % 2 ^ w) : exN x w = exN y w := by unfold exN; rw [eN_congr h, eb_congr h]
theorem rg_congr {x y w : Nat} (h : x % 2 ^ w = y % 2 ^ w) : rgI x w = rgI y w := by unfold rgI; rw [top_congr h, run_congr h]
theorem ab_congr {n : Nat} (h : Wd n) {p q : Nat} (hp : p < 18446744073709551616) (hq : q < 18446744073709551616) (e : p % 2 ^ n = q % 2 ^ n) : abN n p % 2 ^ (n - 1) = abN n q % 2 ^ (n - 1) := by
  unfold abN
  rw [top_congr e]
  split
  · unfold ngN
    rcases h with rfl | rfl | rfl | rfl <;> simp only [Nat.reducePow, Nat.reduceSub] at e ⊢ <;> omega
  · rcases h with rfl | rfl | rfl | rfl <;> simp only [Nat.reducePow, Nat.reduceSub] at e ⊢ <;> omega
theorem mod_lt64 {n : Nat} (h : Wd n) (a : Nat) : a % 2 ^ n < 18446744073709551616 := Nat.lt_of_lt_of_le (Nat.mod_lt _ (Nat.pow_pos (by decide))) (pow_le64 h.le)
/-- A size with its sign is the pattern. -/
def signN (n : Nat) (neg : Bool) (m : Nat) : Nat := if neg = true then ngN m % 2 ^ n else m
theorem sign_back {n p : Nat} (h : Wd n) (hp : p < 18446744073709551616) (hk : kindN n p = 1) : signN n (topB p n) (abN n p % 2 ^ (n - 1)) = p % 2 ^ n := by
  have h1 : p % 2 ^ n ≠ 0 := by intro g; unfold kindN at hk; rw [if_pos g] at hk; omega
  have h2 : p % 2 ^ n ≠ 2 ^ (n - 1) := by intro g; unfold kindN at hk; rw [if_neg h1, if_pos g] at hk; omega
  unfold signN abN
  by_cases ht : topB p n = true
  · rw [if_pos ht, if_pos ht]
    unfold topB at ht
    rw [decide_eq_true_eq] at ht
    unfold ngN
    rcases h with rfl | rfl | rfl | rfl <;> simp only [Nat.reducePow, Nat.reduceSub] at * <;> omega
  · rw [if_neg ht, if_neg ht]
    unfold topB at ht
    rw [decide_eq_true_eq] at ht
    rcases h with rfl | rfl | rfl | rfl <;> simp only [Nat.reducePow, Nat.reduceSub] at * <;> omega
theorem sign_lt {n : Nat} (h : Wd n) (b : Bool) {m : Nat} (hm : m < 18446744073709551616) : signN n b m < 18446744073709551616 := by unfold signN; split; exact mod_lt64 h _; exact hm
theorem ab_pos {n p : Nat} (h : Wd n) (hp : p < 18446744073709551616) (hk : kindN n p = 1) : 0 < abN n p % 2 ^ (n - 1) := by
  have h1 : p % 2 ^ n ≠ 0 := by intro g; unfold kindN at hk; rw [if_pos g] at hk; omega
  have h2 : p % 2 ^ n ≠ 2 ^ (n - 1) := by intro g; unfold kindN at hk; rw [if_neg h1, if_pos g] at hk; omega
  unfold abN
  by_cases ht : topB p n = true
  · rw [if_pos ht]
    unfold topB at ht
    rw [decide_eq_true_eq] at ht
    unfold ngN
    rcases h with rfl | rfl | rfl | rfl <;> simp only [Nat.reducePow, Nat.reduceSub] at * <;> omega
  · rw [if_neg ht]
    unfold topB at ht
    rw [decide_eq_true_eq] at ht
    rcases h with rfl | rfl | rfl | rfl <;> simp only [Nat.reducePow, Nat.reduceSub] at * <;> omega
/-- The parts of a Real. -/
abbrev F8 := Bool × Bool × Int × Int × Int × Int × Int × Int
noncomputable instance F8.dec (a b : F8) : Decidable (a = b) := Classical.propDecidable (a = b)
def F8.with {ε : Type} (f : F8) (e : ε) : Bool × Bool × Int × Int × Int × Int × Int × Int × ε := (f.1, f.2.1, f.2.2.1, f.2.2.2.1, f.2.2.2.2.1, f.2.2.2.2.2.1, f.2.2.2.2.2.2.1, f.2.2.2.2.2.2.2, e)
/-- May these parts be? -/
def okF (n : Nat) (f : F8) : Prop := 1 ≤ f.2.2.1 ∧ f.2.2.1 ≤ (n : Int) - 1 ∧ 0 ≤ f.2.2.2.2.1 ∧ f.2.2.2.2.1 ≤ 2 ∧ 0 ≤ f.2.2.2.2.2.1 ∧ f.2.2.2.2.2.1 ≤ 3 ∧ 0 ≤ f.2.2.2.2.2.2.1 ∧ f.2.2.2.2.2.2.1 ≤ (n : Int)
end Go.Proofs.Ytpdpggndhmnggaa.M

namespace Go.Proofs.Ytpdpggndhmnggaa.M
open Go.RowKit Go.Proofs.YtpdpggndhmnggaaW.PrintWords Go.Proofs.YtpdpggndhmnggaaW.PrintLast Go.Proofs.YtpdpggndhmnggaaW.PrintMore Go.Proofs.Ytpdpggndhmnggaa.F
set_option linter.unusedVariables false
set_option linter.unusedSimpArgs false
/-- A run and the bit that ends it. -/
def hdN (ones : Bool) (r : Nat) : Nat := if ones = true then (2 ^ r - 1) * 2 else 1
end Go.Proofs.Ytpdpggndhmnggaa.M

namespace Go.Proofs.Ytpdpggndhmnggaa.M
open Go.RowKit Go.Proofs.YtpdpggndhmnggaaW.PrintWords Go.Proofs.YtpdpggndhmnggaaW.PrintLast Go.Proofs.YtpdpggndhmnggaaW.PrintMore Go.Proofs.Ytpdpggndhmnggaa.F
set_option linter.unusedVariables false
set_option linter.unusedSimpArgs false
/-- The run of a scale. -/
def runS (sc : Int) : Nat := if 0 ≤ sc / 4 then (sc / 4 + 1).toNat else (-(sc / 4)).toNat
theorem rg_of {x w : Nat} (hw : 0 < w) : (rgI x w ≥ 0 ↔ topB x w = true) ∧ runN x w = (if topB x w = true then (rgI x w + 1).toNat else (-(rgI x w)).toNat) := by
  have h0 := runN_pos (x := x) hw
  unfold rgI
  by_cases ht : topB x w = true
  · rw [if_pos ht, if_pos ht]; exact ⟨⟨fun _ => ht, fun _ => by omega⟩, by omega⟩
  · rw [if_neg ht, if_neg ht]; exact ⟨⟨fun h => by omega, fun h => absurd h ht⟩, by omega⟩
theorem scale_div {x w : Nat} (hw : 0 < w) : scI x w / 4 = rgI x w ∧ scI x w % 4 = (exN x w : Int) ∧ runS (scI x w) = runN x w ∧ decide (0 ≤ scI x w / 4) = topB x w := by
  have hx := exN_lt x w
  obtain ⟨r1, r2⟩ := rg_of (x := x) hw
  have e1 : scI x w / 4 = rgI x w := by unfold scI; omega
  have e2 : scI x w % 4 = (exN x w : Int) := by unfold scI; omega
  refine ⟨e1, e2, ?_, ?_⟩
  · unfold runS
    rw [e1, r2]
    by_cases ht : topB x w = true
    · rw [if_pos ht, if_pos (r1.mpr ht)]
    · rw [if_neg ht, if_neg (fun hh => ht (r1.mp hh))]
  · rw [e1, Bool.eq_iff_iff, decide_eq_true_eq]; exact r1
theorem and3 (x : Int) : Go.bits .and .i64 x 3 = x % 4 := by
  simp only [bits]
  have h1 : (BitVec.ofInt IntKind.i64.bits x &&& BitVec.ofInt IntKind.i64.bits 3).toNat = (x % 4).toNat := by
    show (BitVec.ofInt 64 x &&& BitVec.ofInt 64 3).toNat = _
    rw [BitVec.toNat_and, BitVec.toNat_ofInt, BitVec.toNat_ofInt]
    rw [show ((3 : Int) % ((2 ^ 64 : Nat) : Int)).toNat = 2 ^ 2 - 1 from rfl, Nat.and_two_pow_sub_one_eq_mod]
    rw [show ((2 ^ 64 : Nat) : Int) = 18446744073709551616 from rfl, show (2 : Nat) ^ 2 = 4 from rfl]
    omega
  rw [h1]
  have h2 : 0 ≤ x % 4 ∧ x % 4 < 4 := by omega
  rw [Int.toNat_of_nonneg h2.1]
  simp [IntKind.wrap, IntKind.bits, IntKind.signed]
  omega
end Go.Proofs.Ytpdpggndhmnggaa.M

namespace Go.Proofs.Ytpdpggndhmnggaa.M
open Go.RowKit Go.Proofs.YtpdpggndhmnggaaW.PrintWords Go.Proofs.YtpdpggndhmnggaaW.PrintLast Go.Proofs.YtpdpggndhmnggaaW.PrintMore Go.Proofs.Ytpdpggndhmnggaa.F
set_option linter.unusedVariables false
set_option linter.unusedSimpArgs false
theorem kind_cases (n p : Nat) : (kindN n p = 0 ∧ p % 2 ^ n = 0) ∨ (kindN n p = 2 ∧ p % 2 ^ n = 2 ^ (n - 1)) ∨ kindN n p = 1 := by
  unfold kindN
  by_cases h0 : p % 2 ^ n = 0
  · rw [if_pos h0]; exact Or.inl ⟨rfl, h0⟩
  · rw [if_neg h0]
    by_cases h1 : p % 2 ^ n = 2 ^ (n - 1)
    · rw [if_pos h1]; exact Or.inr (Or.inl ⟨rfl, h1⟩)
    · rw [if_neg h1]; exact Or.inr (Or.inr rfl)
theorem means_real {ε : Type} {n p : Nat} (hk : kindN n p = 1) (e : ε) : meansT n p e = (1, topB p n, scI (abN n p) (n - 1), (mtN (abN n p) (n - 1) : Int), e) := by unfold meansT; rw [if_pos hk]
theorem mt_word {n p : Nat} (h : Wd n) : mtN (abN n p) (n - 1) < 18446744073709551616 := by
  have h1 := h.le
  have h2 := h.ge
  have := mtN_lt (x := abN n p) (w := n - 1) (by omega) (by omega)
  unfold mtN; omega
end Go.Proofs.Ytpdpggndhmnggaa.M
