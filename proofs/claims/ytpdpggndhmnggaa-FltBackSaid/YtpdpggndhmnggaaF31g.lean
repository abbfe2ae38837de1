/- Functions of the given program as plain Lean functions, and for each a proof that the program's call comes to just these answers; no further conditions. (Written by a program of this repo out of the translation.) -/
import Derived.Test.YtpdpggndhmnggaaF0g
import Derived.Test.YtpdpggndhmnggaaF3g
import Derived.Test.YtpdpggndhmnggaaF12g
import Derived.Test.YtpdpggndhmnggaaF40g
import Derived.Test.YtpdpggndhmnggaaF14g
import Derived.Test.YtpdpggndhmnggaaF10g
namespace Go.Proofs.Ytpdpggndhmnggaa.F
open Go.RowKit Go.Proofs.YtpdpggndhmnggaaW.PrintWords Go.Proofs.YtpdpggndhmnggaaW.PrintLast Go.Proofs.YtpdpggndhmnggaaW.PrintMore
attribute [local go_sem high] xor_u64 xor_u32 eqErr25 neErr25 eqErrL25 neErrL25
attribute [local go_sem] max2_int min2_int max_two min_two max_three min_three max_four min_four   -- for this text's walks alone
set_option linter.unusedVariables false
set_option linter.unusedSimpArgs false
def riseT (hd : Bool) (x y : Nat) (d : Int) : Option Bool := if hd = true then (if (FloatKind.f64.format.order x x == some .eq) = true then (if (FloatKind.f64.format.order y y == some .eq) = true then (if d < 0 then (if (FloatKind.f64.format.order x y == some .lt || FloatKind.f64.format.order x y == some .eq) = true then some true else none) else (if d > 0 then (if (FloatKind.f64.format.order x y == some .gt || FloatKind.f64.format.order x y == some .eq) = true then some true else none) else (if (FloatKind.f64.format.order x y == some .eq) = true then some true else none))) else some true) else some true) else none
def riseC (f g : Nat) (c : Int) (T : Option Bool) : Option Bool := if (floatBits .sub .f64 f f).isSome = true then (if (FloatKind.f64.format.order ((floatBits .sub .f64 f f).getD 0) 0 == some .eq) = true then (if (floatBits .sub .f64 g g).isSome = true then (if (FloatKind.f64.format.order ((floatBits .sub .f64 g g).getD 0) 0 == some .eq) = true then (if (FloatKind.f64.format.order f g == some .lt) = true then (if c > 0 then none else T) else (if (FloatKind.f64.format.order f g == some .gt) = true then (if c < 0 then none else T) else (if (FloatKind.f64.format.order f g == some .eq) = true then (if c = 0 then T else none) else none))) else none) else T) else none) else T
def vernierlaw17_FltRise.j0 : Nat → Bool → Nat → Nat → Int → Nat → Nat → Int → Bool → Option (Bool)
 | 0, _, _, _, _, _, _, _, _ => none
 | k + 1, x7, x9, x10, x15, x17, x19, x21, x91 => if x91 = true then (some false) else riseC x9 x10 x15 (riseT x7 x17 x19 x21)
end Go.Proofs.Ytpdpggndhmnggaa.F
