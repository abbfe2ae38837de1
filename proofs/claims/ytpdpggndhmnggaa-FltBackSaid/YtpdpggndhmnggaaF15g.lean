/- Functions of the given program as plain Lean functions, and for each a proof that the program's call comes to just these answers; no further conditions. (Written by a program of this repo out of the translation.) -/
import Derived.Test.YtpdpggndhmnggaaF0g
import Derived.Test.YtpdpggndhmnggaaF16g
import Derived.Test.YtpdpggndhmnggaaF17g
import Derived.Test.YtpdpggndhmnggaaF18g
import Derived.Test.YtpdpggndhmnggaaF20g
namespace Go.Proofs.Ytpdpggndhmnggaa.F
open Go.RowKit Go.Proofs.YtpdpggndhmnggaaW.PrintWords Go.Proofs.YtpdpggndhmnggaaW.PrintLast Go.Proofs.YtpdpggndhmnggaaW.PrintMore
attribute [local go_sem high] xor_u64 xor_u32 eqErr25 neErr25 eqErrL25 neErrL25
attribute [local go_sem] max2_int min2_int max_two min_two max_three min_three max_four min_four   -- for this text's walks alone
set_option linter.unusedVariables false
set_option linter.unusedSimpArgs false
def vernierref17_two.l0 : Nat → Int → Int → Int → Option (Int)
 | 0, _, _, _ => none
 | k + 1, x0, x3, x4 => if x4 < x0 then (vernierref17_two.l0 k x0 (IntKind.u64.wrap (2 * x3)) (wrap64 (x4 + 1))) else (some x3)
def vernierref17_Form_exps.f (a0_0 : Int) (a0_1 : Int) : Option (Int) := if a0_0 = 52 then (some 2048) else (some 256)
def vernierref17_Form_From.T7 : Bool × List (List Nat × List Nat) := (true, [([], []), ([], []), ([0, 1], [0, 1]), ([], []), ([3], [3]), ([2, 4], [2, 4]), ([5], [5]), ([6], [6]), ([7, 4, 0, 1, 2, 3, 4, 5, 6, 7], [7])])
def vernierref17_Form_From.B7 : List Nat := [0, 0, 3, 0, 8, 31, 63, 127, 255]
theorem vernierref17_Form_From.tab7 : rtab .any (opsOf Try.f14 7) = vernierref17_Form_From.T7 := by kernel_rfl
theorem vernierref17_Form_From.bits7 : waitsOk vernierref17_Form_From.T7.2 vernierref17_Form_From.B7 = true := by kernel_rfl
mutual
def vernierref17_Form_To.j0 : Nat → Int → Int → Int → Int → Int → Bool → Int → Int → Option (Int)
 | 0, _, _, _, _, _, _, _, _ => none
 | k + 1, x8, x9, x554000, x554001, x559000, x559001, x559002, x559003 => if (wrap64 (x559002 - x554000)) < x554001 then (vernierref17_Form_To.j1 k x8 x9 x554001 x554000 x554001 x559000 x559001 x559002 x559003) else (vernierref17_Form_To.j1 k x8 x9 (wrap64 (x559002 - x554000)) x554000 x554001 x559000 x559001 x559002 x559003)
def vernierref17_Form_To.j1 : Nat → Int → Int → Int → Int → Int → Int → Bool → Int → Int → Option (Int)
 | 0, _, _, _, _, _, _, _, _, _ => none
 | k + 1, x8, x9, x10, x554000, x554001, x559000, x559001, x559002, x559003 => (vernierref04_Of.f k x559003).bind fun t561 => ((vernierref04_Shr.f k t561 (wrap64 (-(wrap64 ((wrap64 (x559002 - 63)) - x10))))).bind fun t564 => ((vernierref04_Shl.f k t564 (wrap64 (-(wrap64 ((wrap64 (x559002 - 63)) - x10))))).bind fun t567 => ((vernierref04_Sub.f k t561 t567).bind fun t570 => ((vernierref04_Shl.f k (([1] : List Int)) (wrap64 (-(wrap64 ((wrap64 (x559002 - 63)) - x10))))).bind fun t576 => ((vernierref04_Add.f k t570 t570).bind fun t579 => ((vernierref04_Cmp.f k t579 t576).bind fun t582 => ((vernierref04_Low.f k t564 1).bind fun t583 => (if t582 > 0 then (vernierref17_Form_To.j2 k x8 x9 x10 t564 true x554000 x554001) else (if t582 = 0 then (vernierref17_Form_To.j2 k x8 x9 x10 t564 t583 x554000 x554001) else (vernierref17_Form_To.j2 k x8 x9 x10 t564 false x554000 x554001))))))))))
def vernierref17_Form_To.j2 : Nat → Int → Int → Int → List Int → Bool → Int → Int → Option (Int)
 | 0, _, _, _, _, _, _, _ => none
 | k + 1, x8, x9, x10, x13, x83, x554000, x554001 => if x83 = true then ((vernierref04_Add.f k x13 (([1] : List Int))).bind fun t587 => (vernierref17_Form_To.j3 k x8 x9 x10 t587 x554000 x554001)) else (vernierref17_Form_To.j3 k x8 x9 x10 x13 x554000 x554001)
def vernierref17_Form_To.j3 : Nat → Int → Int → Int → List Int → Int → Int → Option (Int)
 | 0, _, _, _, _, _, _ => none
 | k + 1, x8, x9, x10, x13, x554000, x554001 => (vernierref04_Word.f k x13).bind fun t590 => (if t590 ≥ x8 then ((vernierref17_Form_exps.f x554000 x554001).bind fun t591 => (if (IntKind.u64.wrap (t590 + (IntKind.u64.wrap (x8 * (IntKind.u64.wrap (wrap64 (x10 - x554001))))))) > (IntKind.u64.wrap (x8 * (IntKind.u64.wrap (t591 - 1)))) then (some (IntKind.u64.wrap (x9 + (IntKind.u64.wrap (x8 * (IntKind.u64.wrap (t591 - 1))))))) else (some (IntKind.u64.wrap (x9 + (IntKind.u64.wrap (t590 + (IntKind.u64.wrap (x8 * (IntKind.u64.wrap (wrap64 (x10 - x554001)))))))))))) else ((vernierref17_Form_exps.f x554000 x554001).bind fun t592 => (if t590 > (IntKind.u64.wrap (x8 * (IntKind.u64.wrap (t592 - 1)))) then (some (IntKind.u64.wrap (x9 + (IntKind.u64.wrap (x8 * (IntKind.u64.wrap (t592 - 1))))))) else (some (IntKind.u64.wrap (x9 + t590))))))
end
end Go.Proofs.Ytpdpggndhmnggaa.F
