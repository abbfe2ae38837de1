/- Functions of the given program as plain Lean functions, and for each a proof that the program's call comes to just these answers; no further conditions. (Written by a program of this repo out of the translation.) -/
import Derived.Test.YtpdpggndhmnggaaF0g
import Derived.Test.YtpdpggndhmnggaaF19g
namespace Go.Proofs.Ytpdpggndhmnggaa.F
open Go.RowKit Go.Proofs.YtpdpggndhmnggaaW.PrintWords Go.Proofs.YtpdpggndhmnggaaW.PrintLast Go.Proofs.YtpdpggndhmnggaaW.PrintMore
attribute [local go_sem high] xor_u64 xor_u32 eqErr25 neErr25 eqErrL25 neErrL25
attribute [local go_sem] max2_int min2_int max_two min_two max_three min_three max_four min_four   -- for this text's walks alone
set_option linter.unusedVariables false
set_option linter.unusedSimpArgs false
def vernierref05_Is.f (a0 : Int) : Option (Bool) := if a0 = 8 then (some true) else (if a0 = 16 then (some true) else (if a0 = 32 then (some true) else (some (a0 == 64))))
def vernierref05_Power.l0 : Nat → Int → Int → Int → Option (Int)
 | 0, _, _, _ => none
 | k + 1, x0, x3, x4 => if x4 < x0 then (vernierref05_Power.l0 k x0 (IntKind.u64.wrap (2 * x3)) (wrap64 (x4 + 1))) else (some x3)
def vernierref05_Power.f (k : Nat) (a0 : Int) : Option (Int) := vernierref05_Power.l0 k a0 1 0
def vernierref05_Fold.f (k : Nat) (a0 : Int) (a1 : Int) : Option (Int × Int) := (vernierref05_Is.f a0).bind fun t438 => (if t438 = true then ((vernierref01_Text.f k a1 a0).bind fun t439 => ((vernierref01_Number.f k t439).bind fun t440 => (some (t440, 0)))) else (some (0, 2)))
def vernierref05_Kind.f (k : Nat) (a0 : Int) (a1 : Int) : Option (Int × Int) := (vernierref05_Fold.f k a0 a1).bind fun bt494 => (if bt494.2 = 0 then (if bt494.1 = 0 then (some (0, 0)) else ((vernierref05_Power.f k (wrap64 (a0 - 1))).bind fun t496 => (if bt494.1 = t496 then (some (2, 0)) else (some (1, 0))))) else (some (0, bt494.2)))
end Go.Proofs.Ytpdpggndhmnggaa.F
