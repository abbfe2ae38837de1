/- Functions of the given program as plain Lean functions, and for each a proof that the program's call comes to just these answers; no further conditions. (Written by a program of this repo out of the translation.) -/
import Derived.Test.YtpdpggndhmnggaaF0g
import Derived.Test.YtpdpggndhmnggaaF16g
import Derived.Test.YtpdpggndhmnggaaF19g
namespace Go.Proofs.Ytpdpggndhmnggaa.F
open Go.RowKit Go.Proofs.YtpdpggndhmnggaaW.PrintWords Go.Proofs.YtpdpggndhmnggaaW.PrintLast Go.Proofs.YtpdpggndhmnggaaW.PrintMore
attribute [local go_sem high] xor_u64 xor_u32 eqErr25 neErr25 eqErrL25 neErrL25
attribute [local go_sem] max2_int min2_int max_two min_two max_three min_three max_four min_four   -- for this text's walks alone
set_option linter.unusedVariables false
set_option linter.unusedSimpArgs false
def vernierref06_regime.f (a0 : Int) : Option (Int) := if (wrap64 (4 * (wrap64 (Int.tdiv a0 4)))) > a0 then (some (wrap64 ((wrap64 (Int.tdiv a0 4)) - 1))) else (some (wrap64 (Int.tdiv a0 4)))
def vernierref06_Fold.f (k : Nat) (a0 : Int) (a1 : Int) : Option (Int) := (vernierref05_Fold.f k a0 a1).bind fun bt441 => (some bt441.1)
def vernierref06_Neg.f (k : Nat) (a0 : Int) (a1 : Int) : Option (Int) := (vernierref06_Fold.f k a0 (IntKind.u64.wrap (-a1))).bind fun t443 => (some t443)
def vernierref06_String.f (k : Nat) (a0 : Int) (a1 : Int) : Option (ByteArray) := (vernierref01_Text.f k a1 a0).bind fun t497 => (if 0 < (t497.size : Int) then (if (bt t497 0) = 49 then ((vernierref01_Text.f k (IntKind.u64.wrap (-a1)) a0).bind fun t498 => (if 1 ≤ (t498.size : Int) then (some (t498.extract 1 t498.size)) else (none))) else (if 1 ≤ (t497.size : Int) then (some (t497.extract 1 t497.size)) else (none))) else (none))
def vernierref06_run.l0 : Nat → ByteArray → Int → Option (Int)
 | 0, _, _ => none
 | k + 1, x0, x3 => if x3 < (x0.size : Int) then (if 0 ≤ x3 then (if 0 < (x0.size : Int) then (if (bt x0 x3) = (bt x0 0) then (vernierref06_run.l0 k x0 (wrap64 (x3 + 1))) else (some x3)) else (none)) else (none)) else (some x3)
def vernierref06_run.f (k : Nat) (a0 : ByteArray) : Option (Int) := vernierref06_run.l0 k a0 0
mutual
def vernierref06_Split.j0 : Nat → Int → Int → Int → Bool → Option (Bool × Bool × Int × Int × Int × Int × Int × Int × Int)
 | 0, _, _, _, _ => none
 | k + 1, x0, x1, x7, x23 => if x23 = true then (some (false, false, 0, 0, 0, 0, 0, 0, x7)) else ((vernierref06_String.f k x0 x1).bind fun t502 => ((vernierref01_Text.f k x1 x0).bind fun t503 => (if 0 < (t503.size : Int) then (if 0 < (t502.size : Int) then ((vernierref06_run.f k t502).bind fun t504 => (if (bt t502 0) = 49 then (vernierref06_Split.j1 k t502 ((bt t503 0) == 49) ((bt t502 0) == 49) t504 (wrap64 (t504 - 1)) 0 0 0 0) else (vernierref06_Split.j1 k t502 ((bt t503 0) == 49) ((bt t502 0) == 49) t504 (wrap64 (-t504)) 0 0 0 0))) else (none)) else (none))))
def vernierref06_Split.j1 : Nat → ByteArray → Bool → Bool → Int → Int → Int → Int → Int → Int → Option (Bool × Bool × Int × Int × Int × Int × Int × Int × Int)
 | 0, _, _, _, _, _, _, _, _, _ => none
 | k + 1, x8, x506000, x506001, x506002, x506003, x506004, x506005, x506006, x506007 => if x506002 < (x8.size : Int) then (if 0 ≤ (wrap64 (x506002 + 1)) then (if (wrap64 (x506002 + 1)) ≤ (x8.size : Int) then (vernierref06_Split.j2 k (x8.extract ((wrap64 (x506002 + 1)) : Int).toNat x8.size) x506000 x506001 x506002 x506003 x506004 x506005 x506006 x506007) else (none)) else (none)) else (vernierref06_Split.j2 k (⟨#[]⟩ : ByteArray) x506000 x506001 x506002 x506003 x506004 x506005 x506006 x506007)
def vernierref06_Split.j2 : Nat → ByteArray → Bool → Bool → Int → Int → Int → Int → Int → Int → Option (Bool × Bool × Int × Int × Int × Int × Int × Int × Int)
 | 0, _, _, _, _, _, _, _, _, _ => none
 | k + 1, x10, x506000, x506001, x506002, x506003, x506004, x506005, x506006, x506007 => if (x10.size : Int) > 2 then (if 0 ≤ 2 then (if 2 ≤ (x10.size : Int) then (if (x10.extract 0 2).size + 2 ≤ 9223372036854775807 then (if 2 ≤ (((x10.extract 0 2) ++ (⟨#[48, 48]⟩ : ByteArray)).size : Int) then ((vernierref01_Number.f k (((x10.extract 0 2) ++ (⟨#[48, 48]⟩ : ByteArray)).extract 0 2)).bind fun t506 => ((vernierref01_Number.f k (x10.extract 2 x10.size)).bind fun t507 => (some (x506000, x506001, x506002, x506003, 2, wrap64 (t506), wrap64 ((x10.size : Int) - 2), t507, 0)))) else (none)) else (none)) else (none)) else (none)) else (if 0 ≤ (x10.size : Int) then (if (x10.size : Int) ≤ (x10.size : Int) then (if (x10.extract 0 ((x10.size : Int) : Int).toNat).size + 2 ≤ 9223372036854775807 then (if 0 ≤ 2 then (if 2 ≤ (((x10.extract 0 ((x10.size : Int) : Int).toNat) ++ (⟨#[48, 48]⟩ : ByteArray)).size : Int) then ((vernierref01_Number.f k (((x10.extract 0 ((x10.size : Int) : Int).toNat) ++ (⟨#[48, 48]⟩ : ByteArray)).extract 0 2)).bind fun t508 => ((vernierref01_Number.f k (x10.extract ((x10.size : Int) : Int).toNat x10.size)).bind fun t509 => (some (x506000, x506001, x506002, x506003, (x10.size : Int), wrap64 (t508), wrap64 ((x10.size : Int) - (x10.size : Int)), t509, 0)))) else (none)) else (none)) else (none)) else (none)) else (none))
end
def vernierref06_Split.f (k : Nat) (a0 : Int) (a1 : Int) : Option (Bool × Bool × Int × Int × Int × Int × Int × Int × Int) := (vernierref05_Kind.f k a0 a1).bind fun bt500 => (if bt500.2 = 0 then (vernierref06_Split.j0 k a0 a1 bt500.2 (bt500.1 != 1)) else (vernierref06_Split.j0 k a0 a1 bt500.2 true))
def vernierref06_Split.T5 : Bool × List (List Nat × List Nat) := (true, [([], []), ([], []), ([0, 1], [0, 1]), ([2], [2]), ([3], [3]), ([], []), ([5], [5]), ([6], [6]), ([], []), ([8, 2], [8]), ([4, 7, 9], [4, 7, 9]), ([], []), ([11, 10, 9, 0, 1, 2, 3, 4, 5, 6, 7, 8, 9, 10, 11], [10, 11])])
def vernierref06_Split.B5 : List Nat := [0, 0, 3, 7, 15, 0, 32, 96, 0, 263, 1023, 0, 4095]
theorem vernierref06_Split.tab5 : rtab .any (opsOf Try.f73 5) = vernierref06_Split.T5 := by kernel_rfl
theorem vernierref06_Split.bits5 : waitsOk vernierref06_Split.T5.2 vernierref06_Split.B5 = true := by kernel_rfl
mutual
def vernierref06_Decodes.j0 : Nat → Int → Int → Int → Int → Bool → Option (Int × Bool × Int × Int × Int)
 | 0, _, _, _, _, _ => none
 | k + 1, x0, x1, x6, x7, x23 => if x23 = true then (some (x6, false, 0, 0, x7)) else ((vernierref06_Split.f k x0 x1).bind fun bt513 => ((vernierref01_Text.f k bt513.2.2.2.2.2.2.2.1 bt513.2.2.2.2.2.2.1).bind fun t524 => (if 1 + t524.size ≤ 9223372036854775807 then (vernierref06_Decodes.l0 k ((⟨#[49]⟩ : ByteArray) ++ t524) x6 bt513.1 (wrap64 ((wrap64 (4 * bt513.2.2.2.1)) + bt513.2.2.2.2.2.1)) 0) else (none))))
def vernierref06_Decodes.l0 : Nat → ByteArray → Int → Bool → Int → Int → Option (Int × Bool × Int × Int × Int)
 | 0, _, _, _, _, _ => none
 | k + 1, x11, x524000, x524001, x524002, x524003 => if (x11.size : Int) < 64 then (if x11.size + 1 ≤ 9223372036854775807 then (vernierref06_Decodes.l0 k (x11 ++ (⟨#[48]⟩ : ByteArray)) x524000 x524001 x524002 x524003) else (none)) else ((vernierref01_Number.f k x11).bind fun t525 => (some (x524000, x524001, x524002, t525, 0)))
end
end Go.Proofs.Ytpdpggndhmnggaa.F
