/- The order of floats; what is more is rounded to no less; a pattern's float rises with it. -/
import Derived.Test.YtpdpggndhmnggaaF12g
import Derived.Test.YtpdpggndhmnggaaF0g
import Derived.Test.YtpdpggndhmnggaaF10g
import Derived.Test.YtpdpggndhmnggaaF31g
import Derived.Test.YtpdpggndhmnggaaFlo12g
namespace Go.Proofs.Ytpdpggndhmnggaa.M
open Go.RowKit Go.Proofs.YtpdpggndhmnggaaW.PrintWords Go.Proofs.YtpdpggndhmnggaaW.PrintLast Go.Proofs.YtpdpggndhmnggaaW.PrintMore Go.Proofs.Ytpdpggndhmnggaa.F
set_option linter.unusedVariables false
set_option linter.unusedSimpArgs false
/-- A float's place in the order: its word without sign, with the sign. -/
def keyF (b : Nat) : Int := if b / 9223372036854775808 = 1 then -((b % 9223372036854775808 : Nat) : Int) else ((b % 9223372036854775808 : Nat) : Int)
def lowM (r : Nat) : Nat := if r < 4503599627370496 then r else 4503599627370496 + r % 4503599627370496
def lowP (r : Nat) : Int := if r < 4503599627370496 then -1074 else -1074 + (r / 4503599627370496 - 1 : Nat)
theorem low_pow {r : Nat} (h : 0 < r) : 0 < lowM r := by unfold lowM; split <;> omega
theorem fin_read {b : Nat} (hb : b < 18446744073709551616) (h : b % 9223372036854775808 < 9218868437227405312) : Ieee.double.read b = .number (b / 9223372036854775808 == 1) (lowM (b % 9223372036854775808)) (lowP (b % 9223372036854775808)) := by
  rw [d_read]
  unfold lowM lowP
  rw [show b / 9223372036854775808 % 2 = b / 9223372036854775808 by omega]
  by_cases c : b % 9223372036854775808 < 4503599627370496
  · rw [if_pos c, if_pos c, if_pos c]
  · rw [if_neg c, if_neg c, if_neg c, if_pos h]
theorem mag_lt {r s : Nat} {base : Int} (h : r < s) (h1 : base ≤ lowP r) : lowM r * 2 ^ (lowP r - base).toNat < lowM s * 2 ^ (lowP s - base).toNat := by
  have hp : 0 < 2 ^ (lowP r - base).toNat := Nat.pow_pos (by decide)
  have h3 : (lowP r = lowP s ∧ lowM r < lowM s) ∨ (lowP r < lowP s ∧ lowM r < 9007199254740992 ∧ 4503599627370496 ≤ lowM s) := by
    unfold lowP lowM
    by_cases c1 : r < 4503599627370496
    · rw [if_pos c1, if_pos c1]
      by_cases c2 : s < 4503599627370496
      · rw [if_pos c2, if_pos c2]; exact Or.inl ⟨rfl, h⟩
      · rw [if_neg c2, if_neg c2]; omega
    · rw [if_neg c1, if_neg c1, if_neg (by omega), if_neg (by omega)]; omega
  rcases h3 with ⟨e, m⟩ | ⟨e, m1, m2⟩
  · rw [e] at hp ⊢
    exact (Nat.mul_lt_mul_right hp).2 m
  · obtain ⟨d, hd⟩ : ∃ d : Nat, (lowP s - base).toNat = (lowP r - base).toNat + (d + 1) := ⟨(lowP s - lowP r).toNat - 1, by omega⟩
    rw [hd, Nat.pow_add]
    generalize 2 ^ (lowP r - base).toNat = A at *
    have h4 : 2 ^ (d + 1) = 2 * 2 ^ d := Nat.pow_succ' ..
    have hd0 : 0 < 2 ^ d := Nat.pow_pos (by decide)
    have h5 : 9007199254740992 ≤ lowM s * 2 ^ (d + 1) := by
      rw [h4]
      have : lowM s * 1 ≤ lowM s * 2 ^ d := Nat.mul_le_mul_left _ hd0
      have e2 : lowM s * (2 * 2 ^ d) = 2 * (lowM s * 2 ^ d) := by rw [Nat.mul_left_comm]
      rw [e2]; omega
    have e3 : lowM s * (A * 2 ^ (d + 1)) = lowM s * 2 ^ (d + 1) * A := by rw [Nat.mul_comm A, Nat.mul_assoc]
    rw [e3]
    exact (Nat.mul_lt_mul_right hp).2 (by omega)
theorem icmp_congr {A B C D : Int} (h1 : C < D → A < B) (h2 : D < C → B < A) (h3 : C = D → A = B) : compare A B = compare C D := by
  rcases Int.lt_trichotomy C D with c | c | c
  · rw [icmp_lt c, icmp_lt (h1 c)]
  · rw [h3 c, c, icmp_self, icmp_self]
  · rw [icmp_gt c, icmp_gt (h2 c)]
theorem ord_key {a b : Nat} (ha : a < 18446744073709551616) (hb : b < 18446744073709551616) (fa : a % 9223372036854775808 < 9218868437227405312) (fb : b % 9223372036854775808 < 9218868437227405312) :
    FloatKind.f64.format.order a b = some (compare (keyF a) (keyF b)) := by
  show (Ieee.double.read a).order (Ieee.double.read b) = _
  rw [fin_read ha fa, fin_read hb fb]
  unfold keyF
  have hs : a / 9223372036854775808 = 0 ∨ a / 9223372036854775808 = 1 := by omega
  have ht : b / 9223372036854775808 = 0 ∨ b / 9223372036854775808 = 1 := by omega
  generalize a / 9223372036854775808 = s at *
  generalize b / 9223372036854775808 = t at *
  generalize a % 9223372036854775808 = r at *
  generalize b % 9223372036854775808 = q at *
  show some (compare (Ieee.signed (s == 1) (lowM r) (lowP r - min (lowP r) (lowP q)).toNat) (Ieee.signed (t == 1) (lowM q) (lowP q - min (lowP r) (lowP q)).toNat)) = _
  congr 1
  have lt1 : r < q → _ := fun h => mag_lt (base := min (lowP r) (lowP q)) h (by omega)
  have lt2 : q < r → _ := fun h => mag_lt (base := min (lowP r) (lowP q)) h (by omega)
  have z1 : r = 0 → lowM r * 2 ^ (lowP r - min (lowP r) (lowP q)).toNat = 0 := fun h => by subst h; exact Nat.zero_mul _
  have z2 : q = 0 → lowM q * 2 ^ (lowP q - min (lowP r) (lowP q)).toNat = 0 := fun h => by subst h; exact Nat.zero_mul _
  have e1 : r = q → lowM r * 2 ^ (lowP r - min (lowP r) (lowP q)).toNat = lowM q * 2 ^ (lowP q - min (lowP r) (lowP q)).toNat := fun h => by subst h; rfl
  have p1 : 0 < r → 0 < lowM r * 2 ^ (lowP r - min (lowP r) (lowP q)).toNat := fun h => Nat.mul_pos (low_pow h) (Nat.pow_pos (by decide))
  have p2 : 0 < q → 0 < lowM q * 2 ^ (lowP q - min (lowP r) (lowP q)).toNat := fun h => Nat.mul_pos (low_pow h) (Nat.pow_pos (by decide))
  unfold Ieee.signed
  rw [Nat.shiftLeft_eq, Nat.shiftLeft_eq]
  generalize lowM r * 2 ^ (lowP r - min (lowP r) (lowP q)).toNat = X at *
  generalize lowM q * 2 ^ (lowP q - min (lowP r) (lowP q)).toNat = Y at *
  clear fa fb ha hb
  rcases hs with rfl | rfl <;> rcases ht with rfl | rfl <;> refine icmp_congr ?_ ?_ ?_ <;> simp only [show ((0 : Nat) == 1) = false from rfl, show ((1 : Nat) == 1) = true from rfl, Bool.false_eq_true, ↓reduceIte, if_true, if_false, show ¬ ((0 : Nat) = 1) by decide] <;> intro hh <;> omega
theorem toT_fin {n p : Nat} (h : Wd n) (hk : kindN n p ≠ 2) : toT n p < 18446744073709551616 ∧ toT n p % 9223372036854775808 < 9218868437227405312 ∧ keyF (toT n p) = if kindN n p = 1 then (if topB p n = true then -(toD (scI (abN n p) (n - 1)) (mtN (abN n p) (n - 1)) : Int) else (toD (scI (abN n p) (n - 1)) (mtN (abN n p) (n - 1)) : Int)) else 0 := by
  unfold toT keyF
  by_cases hk1 : kindN n p = 1
  · rw [if_pos hk1, if_pos hk1]
    obtain ⟨s0, s1⟩ := @sc_real n p h
    have f0 := mt_ge (abN n p) (n - 1)
    have f1 := mt_word (n := n) (p := p) h
    have hl := (toD_lt (sc := scI (abN n p) (n - 1)) (by omega) (by omega) f0 f1).1
    generalize toD (scI (abN n p) (n - 1)) (mtN (abN n p) (n - 1)) = D at *
    by_cases ht : topB p n = true
    · rw [if_pos ht, if_pos ht, if_pos (by omega)]
      refine ⟨by omega, by omega, by omega⟩
    · rw [if_neg ht, if_neg ht, if_neg (by omega)]
      refine ⟨by omega, by omega, by omega⟩
  · rw [if_neg hk1, if_neg hk, if_neg hk1]
    exact ⟨by decide, by decide, by decide⟩
end Go.Proofs.Ytpdpggndhmnggaa.M
