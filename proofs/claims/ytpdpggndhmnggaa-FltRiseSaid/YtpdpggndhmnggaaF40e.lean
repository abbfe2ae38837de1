/- What the printed walks leave out: a NaN that a change of a float's kind gives is any NaN; From32 of a NaN, To32 of NaR; no further conditions. -/
import Derived.Test.YtpdpggndhmnggaaF12e
namespace Go.Proofs.Ytpdpggndhmnggaa.F
open Go.RowKit Go.Proofs.YtpdpggndhmnggaaW.PrintWords Go.Proofs.YtpdpggndhmnggaaW.PrintLast Go.Proofs.YtpdpggndhmnggaaW.PrintMore
attribute [local go_sem high] xor_u64 xor_u32 eqErr25 neErr25 eqErrL25 neErrL25
attribute [local go_sem] max2_int min2_int max_two min_two max_three min_three max_four min_four   -- for this text's walks alone
set_option linter.unusedVariables false
set_option linter.unusedSimpArgs false
/-- The NaN that an invalid difference gives in a world. -/
def nanS (b : Nat) (w : World) : Nat := (Question.nanBits .f64 b b).cut (w.tape w.drawn (.nanBits .f64 b b))
theorem nanS_nan {b : Nat} (w : World) : 9218868437227405312 < nanS b w % 9223372036854775808 := by
 unfold nanS Question.cut
 generalize w.tape _ _ = t
 show 9218868437227405312 < (t % 2 * 9223372036854775808 + 9218868437227405312 + 1 + t / 2 % 4503599627370495) % 9223372036854775808
 have h1 := Nat.mod_lt t (show 0 < 2 by decide)
 have h2 := Nat.mod_lt (t / 2) (show 0 < 4503599627370495 by decide)
 generalize t % 2 = s at *
 generalize t / 2 % 4503599627370495 = r at *
 rcases (show s = 0 ∨ s = 1 by omega) with h | h <;> subst h <;> omega
theorem run_sub_nan {P : Program} (t : TypeId) (b : Nat) (h : ¬ (floatBits .sub .f64 b b).isSome = true) (w : World) : (binOp .sub t (.float .f64 b) (.float .f64 b)).run P w = .ok (.float .f64 (nanS b w)) w.drew := by
 have h' : FloatKind.f64.format.sub b b = none := by
  have e : floatBits .sub .f64 b b = FloatKind.f64.format.sub b b := rfl
  rw [e] at h
  cases hh : FloatKind.f64.format.sub b b with
  | none => rfl
  | some v => rw [hh] at h; exact absurd rfl h
 simp [binOp, Op.floatArith, h', nanS, Question.forced]
theorem nanS_ord {b : Nat} (w : World) : FloatKind.f64.format.order (nanS b w) 0 = none := by
 have hv := @nanS_nan b w
 generalize nanS b w = v at *
 show (Ieee.double.read v).order (Ieee.double.read 0) = none
 have e : Ieee.double.read v = .nan (v / 9223372036854775808 % 2 == 1) (v % 9223372036854775808 - 9218868437227405312) := by
  show (if v % 9223372036854775808 < 4503599627370496 then _ else if v % 9223372036854775808 < 9218868437227405312 then _ else if v % 9223372036854775808 = 9218868437227405312 then _ else _) = _
  rw [if_neg (by omega), if_neg (by omega), if_neg (by omega)]; rfl
 rw [e]; rfl
end Go.Proofs.Ytpdpggndhmnggaa.F
