/- Rounding in arithmetic: of a string of bits the first 128 alone are held, and whether something is lost; more bits laid ahead; the cut, and what is left behind it. (For layer 7: round.Cut against its reference.) -/
import Derived.Test.YtpdpggndhmnggaaLead2g
import Derived.Test.YtpdpggndhmnggaaF17g
import Derived.Test.YtpdpggndhmnggaaBleng
import Derived.Test.YtpdpggndhmnggaaF0g
namespace Go.Proofs.Ytpdpggndhmnggaa.M
set_option linter.unusedVariables false
set_option linter.unusedSimpArgs false
/-- A string of len bits, the number V; of it the first 128 bits are held. More bits laid ahead of it. -/
theorem under_math {V len b m : Nat} (hV : V < 2 ^ len) (hlen : 128 ≤ len) (hm : m ≤ 128) (hb : b < 2 ^ m) :
    (b * 2 ^ len + V) / 2 ^ (len + m - 128) = b * 2 ^ (128 - m) + V / 2 ^ (len - 128) / 2 ^ m ∧
    ((b * 2 ^ len + V) % 2 ^ (len + m - 128) ≠ 0 ↔ V % 2 ^ (len - 128) ≠ 0 ∨ V / 2 ^ (len - 128) % 2 ^ m ≠ 0) := by
  have p1 : 0 < 2 ^ (len + m - 128) := Nat.pow_pos (by decide)
  have p2 : 0 < 2 ^ (len - 128) := Nat.pow_pos (by decide)
  have p3 : 0 < 2 ^ m := Nat.pow_pos (by decide)
  have e1 : 2 ^ (len + m - 128) = 2 ^ (len - 128) * 2 ^ m := by rw [show len + m - 128 = (len - 128) + m by omega, Nat.pow_add]
  have e2 : 2 ^ len = 2 ^ (len + m - 128) * 2 ^ (128 - m) := by rw [← Nat.pow_add, show len + m - 128 + (128 - m) = len by omega]
  have e3 : b * 2 ^ len + V = 2 ^ (len + m - 128) * (b * 2 ^ (128 - m)) + V := by rw [e2]; grind
  constructor
  · rw [e3, Nat.mul_add_div p1, e1, Nat.div_div_eq_div_mul]
  · rw [e3, Nat.mul_add_mod, e1, Nat.mod_mul]
    generalize V % 2 ^ (len - 128) = u
    generalize V / 2 ^ (len - 128) % 2 ^ m = v
    generalize 2 ^ (len - 128) = c at *
    constructor
    · intro h
      rcases Nat.eq_zero_or_pos u with h1 | h1
      · rcases Nat.eq_zero_or_pos v with h2 | h2
        · subst h1; subst h2; simp at h
        · right; omega
      · left; omega
    · rintro (h | h)
      · intro hh; have := Nat.le_add_right u (c * v); omega
      · intro hh
        have : 0 < c * v := Nat.mul_pos p2 (Nat.pos_of_ne_zero h)
        omega
/-- What is left behind a cut: against the half, with something more behind it. -/
def leftN (x half : Nat) (rest : Bool) : Nat := if half < x ∨ (x = half ∧ rest = true) then 3 else if x = half then 2 else if 0 < x ∨ rest = true then 1 else 0
/-- The first 128 bits tell as much as the whole string, with what is lost told. -/
theorem cut_math {X L c : Nat} (hL : 128 ≤ L) (hc : c < 128) (rest : Bool) :
    X / 2 ^ (L - 128) / 2 ^ (128 - c) = X / 2 ^ (L - c) ∧
    leftN (X / 2 ^ (L - 128) % 2 ^ (128 - c)) (2 ^ (127 - c)) (rest || decide (X % 2 ^ (L - 128) ≠ 0)) = leftN (X % 2 ^ (L - c)) (2 ^ (L - c - 1)) rest := by
  have p1 : 0 < 2 ^ (L - 128) := Nat.pow_pos (by decide)
  have e1 : 2 ^ (L - c) = 2 ^ (L - 128) * 2 ^ (128 - c) := by rw [← Nat.pow_add, show L - 128 + (128 - c) = L - c by omega]
  have e2 : 2 ^ (L - c - 1) = 2 ^ (L - 128) * 2 ^ (127 - c) := by rw [← Nat.pow_add, show L - 128 + (127 - c) = L - c - 1 by omega]
  constructor
  · rw [Nat.div_div_eq_div_mul, ← e1]
  · rw [e1, e2, Nat.mod_mul]
    have hu := Nat.mod_lt X p1
    generalize X % 2 ^ (L - 128) = u at *
    generalize X / 2 ^ (L - 128) % 2 ^ (128 - c) = v
    generalize 2 ^ (127 - c) = h
    generalize 2 ^ (L - 128) = g at *
    have key : ∀ a b : Nat, a < b → g * a + g ≤ g * b := fun a b hab => by rw [← Nat.mul_succ]; exact Nat.mul_le_mul_left _ hab
    unfold leftN
    rcases Nat.lt_trichotomy v h with hv | hv | hv
    · have k := key v h hv
      have n1 : ¬ (h < v ∨ (v = h ∧ (rest || decide (u ≠ 0)) = true)) := by omega
      have n2 : ¬ (g * h < u + g * v ∨ (u + g * v = g * h ∧ rest = true)) := by omega
      rw [if_neg n1, if_neg n2, if_neg (show ¬ v = h by omega), if_neg (show ¬ u + g * v = g * h by omega)]
      rcases Nat.eq_zero_or_pos u with hu0 | hu0
      · subst hu0
        rcases Nat.eq_zero_or_pos v with hv0 | hv0
        · subst hv0; simp
        · have : 0 < g * v := Nat.mul_pos p1 hv0
          rw [if_pos (Or.inl hv0), if_pos (Or.inl (by omega))]
      · rw [if_pos (Or.inr (by simp; right; omega)), if_pos (Or.inl (by omega))]
    · subst hv
      rcases Nat.eq_zero_or_pos u with hu0 | hu0
      · subst hu0
        cases rest <;> simp
      · rw [if_pos (Or.inr ⟨rfl, by simp; right; omega⟩), if_pos (Or.inl (by omega))]
    · have k := key h v hv
      rw [if_pos (Or.inl hv), if_pos (Or.inl (by omega))]
end Go.Proofs.Ytpdpggndhmnggaa.M

namespace Go.Proofs.Ytpdpggndhmnggaa.M
open Go.RowKit Go.Proofs.YtpdpggndhmnggaaW.PrintWords Go.Proofs.YtpdpggndhmnggaaW.PrintLast Go.Proofs.YtpdpggndhmnggaaW.PrintMore Go.Proofs.Ytpdpggndhmnggaa.F
set_option linter.unusedVariables false
set_option linter.unusedSimpArgs false
theorem getD_set_ne {l : List Int} {i j : Nat} {d : Int} (h : i ≠ j) : (l.set i d).getD j 0 = l.getD j 0 := by
  rw [List.getD_eq_getElem?_getD, List.getD_eq_getElem?_getD, List.getElem?_set_ne h]
end Go.Proofs.Ytpdpggndhmnggaa.M

namespace Go.Proofs.Ytpdpggndhmnggaa.M
open Go.RowKit Go.Proofs.YtpdpggndhmnggaaW.PrintWords Go.Proofs.YtpdpggndhmnggaaW.PrintLast Go.Proofs.YtpdpggndhmnggaaW.PrintMore Go.Proofs.Ytpdpggndhmnggaa.F
set_option linter.unusedVariables false
set_option linter.unusedSimpArgs false
/-- The upper and the lower word of a number. -/
def hi (s : Nat) : Int := ((s / 18446744073709551616 % 18446744073709551616 : Nat) : Int)
def lo (s : Nat) : Int := ((s % 18446744073709551616 : Nat) : Int)
/-- The number that two words are. -/
def tw (h l : Nat) : Nat := h * 18446744073709551616 + l
theorem tw_lt {h l : Nat} (hh : h < 18446744073709551616) (hl : l < 18446744073709551616) : tw h l < 340282366920938463463374607431768211456 := by unfold tw; omega
theorem tw_eq {s : Nat} (h : s < 340282366920938463463374607431768211456) : tw (s / 18446744073709551616 % 18446744073709551616) (s % 18446744073709551616) = s := by unfold tw; omega
theorem p64 : (2 : Nat) ^ 64 = 18446744073709551616 := by decide
theorem p128 : (2 : Nat) ^ 128 = 340282366920938463463374607431768211456 := by decide
theorem blen128 {ah al : Nat} (h0 : ah < 18446744073709551616) (h1 : al < 18446744073709551616) : blen (tw ah al) ≤ 128 := by
  have ha := tw_lt h0 h1
  rw [← p128] at ha
  rcases Nat.eq_zero_or_pos (tw ah al) with h | h
  · rw [h]; decide
  · have := blen_le h
    rcases Nat.lt_or_ge 128 (blen (tw ah al)) with h6 | h6
    · have : 2 ^ 128 ≤ 2 ^ (blen (tw ah al) - 1) := Nat.pow_le_pow_right (by decide) (by omega)
      omega
    · exact h6
end Go.Proofs.Ytpdpggndhmnggaa.M
