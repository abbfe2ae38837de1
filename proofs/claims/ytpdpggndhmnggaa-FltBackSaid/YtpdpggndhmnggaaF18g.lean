/- Functions of the given program as plain Lean functions, and for each a proof that the program's call comes to just these answers; no further conditions. (Written by a program of this repo out of the translation.) -/
import Derived.Test.YtpdpggndhmnggaaF0g
import Derived.Test.YtpdpggndhmnggaaF1g
import Derived.Test.YtpdpggndhmnggaaF16g
import Derived.Test.YtpdpggndhmnggaaF17g
import Derived.Test.YtpdpggndhmnggaaF19g
import Derived.Test.YtpdpggndhmnggaaF20g
import Derived.Test.YtpdpggndhmnggaaF21g
namespace Go.Proofs.Ytpdpggndhmnggaa.F
open Go.RowKit Go.Proofs.YtpdpggndhmnggaaW.PrintWords Go.Proofs.YtpdpggndhmnggaaW.PrintLast Go.Proofs.YtpdpggndhmnggaaW.PrintMore
attribute [local go_sem high] xor_u64 xor_u32 eqErr25 neErr25 eqErrL25 neErrL25
attribute [local go_sem] max2_int min2_int max_two min_two max_three min_three max_four min_four   -- for this text's walks alone
set_option linter.unusedVariables false
set_option linter.unusedSimpArgs false
attribute [local go_sem high] eqA61
mutual
def vernierref07_Exactly.j0 : Nat → List Int → Bool → Int → Int → Bool → Int → Int → Int → Bool → Option (Int × Bool × Int × Int × Int × Bool)
 | 0, _, _, _, _, _, _, _, _, _ => none
 | k + 1, x1, x3, x9, x387000, x387001, x387002, x387003, x387004, x387005 => if x9 > 128 then ((vernierref04_Low.f k x1 (wrap64 (x9 - 128))).bind fun t390 => (if x3 = true then (vernierref07_Exactly.j1 k x1 x9 x387000 x387001 x387002 x387003 x387004 true) else (vernierref07_Exactly.j1 k x1 x9 x387000 x387001 x387002 x387003 x387004 t390))) else ((vernierref04_Word.f k x1).bind fun t399 => ((vernierref04_Shr.f k x1 64).bind fun t400 => ((vernierref04_Word.f k t400).bind fun t403 => (some (x387000, x387001, x387002, t403, t399, x387005)))))
def vernierref07_Exactly.j1 : Nat → List Int → Int → Int → Bool → Int → Int → Int → Bool → Option (Int × Bool × Int × Int × Int × Bool)
 | 0, _, _, _, _, _, _, _, _ => none
 | k + 1, x1, x9, x387000, x387001, x387002, x387003, x387004, x387005 => (vernierref04_Shr.f k x1 (wrap64 (x9 - 128))).bind fun t391 => ((vernierref04_Word.f k t391).bind fun t394 => ((vernierref04_Shr.f k t391 64).bind fun t395 => ((vernierref04_Word.f k t395).bind fun t398 => (some (x387000, x387001, x387002, t398, t394, x387005)))))
end
def vernierref07_some.l0 : Nat → ByteArray → Int → Option (Bool)
 | 0, _, _ => none
 | k + 1, x0, x3 => if x3 < (x0.size : Int) then (if 0 ≤ x3 then (if (bt x0 x3) = 49 then (some true) else (vernierref07_some.l0 k x0 (wrap64 (x3 + 1)))) else (none)) else (some false)
def vernierref07_some.f (k : Nat) (a0 : ByteArray) : Option (Bool) := vernierref07_some.l0 k a0 0
mutual
def vernierref07_left.j0 : Nat → ByteArray → Bool → Option (Int)
 | 0, _, _ => none
 | k + 1, x0, x1 => if 1 ≤ (x0.size : Int) then ((vernierref07_some.f k (x0.extract 1 x0.size)).bind fun t426 => (if 0 < (x0.size : Int) then (if (bt x0 0) = 49 then (if t426 = true then (vernierref07_left.j1 k x0 x1 t426 true) else (vernierref07_left.j1 k x0 x1 t426 x1)) else (vernierref07_left.j1 k x0 x1 t426 false)) else (none))) else (none)
def vernierref07_left.j1 : Nat → ByteArray → Bool → Bool → Bool → Option (Int)
 | 0, _, _, _, _ => none
 | k + 1, x0, x1, x5, x11 => if x11 = true then (some 3) else (if 0 < (x0.size : Int) then (if (bt x0 0) = 49 then (some 2) else (if x5 = true then (some 1) else (if x1 = true then (some 1) else (some 0)))) else (none))
end
def vernierref07_left.f (k : Nat) (a0 : ByteArray) (a1 : Bool) : Option (Int) := if a0.toList = ([] : List UInt8) then (vernierref07_left.j0 k (⟨#[48]⟩ : ByteArray) a1) else (vernierref07_left.j0 k a0 a1)
mutual
def vernierref07_Cut.j0 : Nat → Int → ByteArray → Bool → Int → Bool → Int → Int → Int → Bool → Option (Int × Int × Int)
 | 0, _, _, _, _, _, _, _, _, _ => none
 | k + 1, x0, x10, x11, x428000, x428001, x428002, x428003, x428004, x428005 => if x428002 ≥ (wrap64 ((wrap64 (4 * x0)) - 8)) then ((vernierref05_Power.f k (wrap64 (x0 - 1))).bind fun t434 => (some (IntKind.u64.wrap (t434 - 1), 0, 0))) else (if x428002 < (wrap64 (-(wrap64 ((wrap64 (4 * x0)) - 8)))) then (vernierref07_Cut.j1 k x0 x10 true x428000 x428001 x428002 x428003 x428004 x428005) else (if x428002 = (wrap64 (-(wrap64 ((wrap64 (4 * x0)) - 8)))) then (vernierref07_Cut.j1 k x0 x10 x11 x428000 x428001 x428002 x428003 x428004 x428005) else (vernierref07_Cut.j1 k x0 x10 false x428000 x428001 x428002 x428003 x428004 x428005)))
def vernierref07_Cut.j1 : Nat → Int → ByteArray → Bool → Int → Bool → Int → Int → Int → Bool → Option (Int × Int × Int)
 | 0, _, _, _, _, _, _, _, _, _ => none
 | k + 1, x0, x10, x73, x428000, x428001, x428002, x428003, x428004, x428005 => if x73 = true then (some (1, 0, 0)) else ((vernierref06_Head.f k x428002).bind fun t435 => (if t435.size + x10.size ≤ 9223372036854775807 then (if 0 ≤ (wrap64 (x0 - 1)) then (if (wrap64 (x0 - 1)) ≤ ((t435 ++ x10).size : Int) then ((vernierref01_Number.f k ((t435 ++ x10).extract 0 ((wrap64 (x0 - 1)) : Int).toNat)).bind fun t436 => ((vernierref07_left.f k ((t435 ++ x10).extract ((wrap64 (x0 - 1)) : Int).toNat (t435 ++ x10).size) x428005).bind fun t437 => (some (t436, t437, 0)))) else (none)) else (none)) else (none)))
end
def vernierref07_Rounds.j0 : Nat → Int → Int → Bool → Int → Bool → Int → Int → Int → Bool → Option (Int × Int)
 | 0, _, _, _, _, _, _, _, _, _ => none
 | k + 1, x0, x6, x29, x445000, x445001, x445002, x445003, x445004, x445005 => if x29 = true then (if x445001 = true then ((vernierref06_Neg.f k x0 (IntKind.u64.wrap (x6 + 1))).bind fun t448 => (some (t448, 0))) else (some (IntKind.u64.wrap (x6 + 1), 0))) else (if x445001 = true then ((vernierref06_Neg.f k x0 x6).bind fun t449 => (some (t449, 0))) else (some (x6, 0)))
end Go.Proofs.Ytpdpggndhmnggaa.F
