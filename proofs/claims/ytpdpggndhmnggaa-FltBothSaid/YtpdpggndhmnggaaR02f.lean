/- What the reference's naturals compute, second part: Mul, Shl, Shr, Low, Word, Bits. -/
import Derived.Test.YtpdpggndhmnggaaF17f
import Derived.Test.YtpdpggndhmnggaaBlenf
import Derived.Test.YtpdpggndhmnggaaF0f
namespace Go.Proofs.Ytpdpggndhmnggaa.M
open Go.RowKit Go.Proofs.YtpdpggndhmnggaaW.PrintWords Go.Proofs.YtpdpggndhmnggaaW.PrintLast Go.Proofs.YtpdpggndhmnggaaW.PrintMore Go.Proofs.Ytpdpggndhmnggaa.F
set_option linter.unusedVariables false
set_option linter.unusedSimpArgs false
theorem getD_set_ne {l : List Int} {i j : Nat} {d : Int} (h : i ≠ j) : (l.set i d).getD j 0 = l.getD j 0 := by
  rw [List.getD_eq_getElem?_getD, List.getD_eq_getElem?_getD, List.getElem?_set_ne h]
end Go.Proofs.Ytpdpggndhmnggaa.M

namespace Go.Proofs.Ytpdpggndhmnggaa.M
open Go.RowKit Go.Proofs.YtpdpggndhmnggaaW.PrintWords Go.Proofs.YtpdpggndhmnggaaW.PrintLast Go.Proofs.YtpdpggndhmnggaaW.PrintMore Go.Proofs.Ytpdpggndhmnggaa.F
set_option linter.unusedVariables false
set_option linter.unusedSimpArgs false
/-- The upper and the lower word of a number. -/
def hi (s : Nat) : Int := ((s / 18446744073709551616 % 18446744073709551616 : Nat) : Int)
def lo (s : Nat) : Int := ((s % 18446744073709551616 : Nat) : Int)
/-- The number that two words are. -/
def tw (h l : Nat) : Nat := h * 18446744073709551616 + l
theorem tw_lt {h l : Nat} (hh : h < 18446744073709551616) (hl : l < 18446744073709551616) : tw h l < 340282366920938463463374607431768211456 := by unfold tw; omega
theorem tw_eq {s : Nat} (h : s < 340282366920938463463374607431768211456) : tw (s / 18446744073709551616 % 18446744073709551616) (s % 18446744073709551616) = s := by unfold tw; omega
theorem p64 : (2 : Nat) ^ 64 = 18446744073709551616 := by decide
theorem p128 : (2 : Nat) ^ 128 = 340282366920938463463374607431768211456 := by decide
theorem blen128 {ah al : Nat} (h0 : ah < 18446744073709551616) (h1 : al < 18446744073709551616) : blen (tw ah al) ≤ 128 := by
  have ha := tw_lt h0 h1
  rw [← p128] at ha
  rcases Nat.eq_zero_or_pos (tw ah al) with h | h
  · rw [h]; decide
  · have := blen_le h
    rcases Nat.lt_or_ge 128 (blen (tw ah al)) with h6 | h6
    · have : 2 ^ 128 ≤ 2 ^ (blen (tw ah al) - 1) := Nat.pow_le_pow_right (by decide) (by omega)
      omega
    · exact h6
end Go.Proofs.Ytpdpggndhmnggaa.M
