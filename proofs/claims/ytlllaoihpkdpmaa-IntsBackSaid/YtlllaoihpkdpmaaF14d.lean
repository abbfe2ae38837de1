/- Functions of the given program as plain Lean functions, and for each a proof that the program's call comes to just these answers; no further conditions. (Written by a program of this repo out of the translation.) -/
import Derived.Test.YtlllaoihpkdpmaaF0d
import Derived.Test.YtlllaoihpkdpmaaF1d
import Derived.Test.YtlllaoihpkdpmaaF12d
import Derived.Test.YtlllaoihpkdpmaaF13d
import Derived.Test.YtlllaoihpkdpmaaF15d
import Derived.Test.YtlllaoihpkdpmaaF16d
import Derived.Test.YtlllaoihpkdpmaaF17d
namespace Go.Proofs.Ytlllaoihpkdpmaa.F
open Go.RowKit Go.Proofs.YtlllaoihpkdpmaaW.PrintWords Go.Proofs.YtlllaoihpkdpmaaW.PrintLast Go.Proofs.YtlllaoihpkdpmaaW.PrintMore
attribute [local go_sem high] xor_u64 xor_u32 eqErr25 neErr25 eqErrL25 neErrL25
attribute [local go_sem] max2_int min2_int max_two min_two max_three min_three max_four min_four   -- for this text's walks alone
set_option linter.unusedVariables false
set_option linter.unusedSimpArgs false
attribute [local go_sem high] eqA51
mutual
def vernierref07_Exactly.j0 : Nat → List Int → Bool → Int → Int → Bool → Int → Int → Int → Bool → Option (Int × Bool × Int × Int × Int × Bool)
  | 0, _, _, _, _, _, _, _, _, _ => none
  | k + 1, x1, x3, x9, x353000, x353001, x353002, x353003, x353004, x353005 => if x9 > 128 then ((vernierref04_Low.f k x1 (wrap64 (x9 - 128))).bind fun t356 => (if x3 = true then (vernierref07_Exactly.j1 k x1 x9 x353000 x353001 x353002 x353003 x353004 true) else (vernierref07_Exactly.j1 k x1 x9 x353000 x353001 x353002 x353003 x353004 t356))) else ((vernierref04_Word.f k x1).bind fun t365 => ((vernierref04_Shr.f k x1 64).bind fun t366 => ((vernierref04_Word.f k t366).bind fun t369 => (some (x353000, x353001, x353002, t369, t365, x353005)))))
def vernierref07_Exactly.j1 : Nat → List Int → Int → Int → Bool → Int → Int → Int → Bool → Option (Int × Bool × Int × Int × Int × Bool)
  | 0, _, _, _, _, _, _, _, _ => none
  | k + 1, x1, x9, x353000, x353001, x353002, x353003, x353004, x353005 => (vernierref04_Shr.f k x1 (wrap64 (x9 - 128))).bind fun t357 => ((vernierref04_Word.f k t357).bind fun t360 => ((vernierref04_Shr.f k t357 64).bind fun t361 => ((vernierref04_Word.f k t361).bind fun t364 => (some (x353000, x353001, x353002, t364, t360, x353005)))))
end
def vernierref07_some.l0 : Nat → ByteArray → Int → Option (Bool)
  | 0, _, _ => none
  | k + 1, x0, x3 => if x3 < (x0.size : Int) then (if 0 ≤ x3 then (if (bt x0 x3) = 49 then (some true) else (vernierref07_some.l0 k x0 (wrap64 (x3 + 1)))) else (none)) else (some false)
def vernierref07_some.f (k : Nat) (a0 : ByteArray) : Option (Bool) := vernierref07_some.l0 k a0 0
mutual
def vernierref07_left.j0 : Nat → ByteArray → Bool → Option (Int)
  | 0, _, _ => none
  | k + 1, x0, x1 => if 1 ≤ (x0.size : Int) then ((vernierref07_some.f k (x0.extract 1 x0.size)).bind fun t392 => (if 0 < (x0.size : Int) then (if (bt x0 0) = 49 then (if t392 = true then (vernierref07_left.j1 k x0 x1 t392 true) else (vernierref07_left.j1 k x0 x1 t392 x1)) else (vernierref07_left.j1 k x0 x1 t392 false)) else (none))) else (none)
def vernierref07_left.j1 : Nat → ByteArray → Bool → Bool → Bool → Option (Int)
  | 0, _, _, _, _ => none
  | k + 1, x0, x1, x5, x11 => if x11 = true then (some 3) else (if 0 < (x0.size : Int) then (if (bt x0 0) = 49 then (some 2) else (if x5 = true then (some 1) else (if x1 = true then (some 1) else (some 0)))) else (none))
end
def vernierref07_left.f (k : Nat) (a0 : ByteArray) (a1 : Bool) : Option (Int) := if a0.toList = ([] : List UInt8) then (vernierref07_left.j0 k (⟨#[48]⟩ : ByteArray) a1) else (vernierref07_left.j0 k a0 a1)
mutual
def vernierref07_Cut.j0 : Nat → Int → ByteArray → Bool → Int → Bool → Int → Int → Int → Bool → Option (Int × Int × Int)
  | 0, _, _, _, _, _, _, _, _, _ => none
  | k + 1, x0, x10, x11, x394000, x394001, x394002, x394003, x394004, x394005 => if x394002 ≥ (wrap64 ((wrap64 (4 * x0)) - 8)) then ((vernierref05_Power.f k (wrap64 (x0 - 1))).bind fun t400 => (some (IntKind.u64.wrap (t400 - 1), 0, 0))) else (if x394002 < (wrap64 (-(wrap64 ((wrap64 (4 * x0)) - 8)))) then (vernierref07_Cut.j1 k x0 x10 true x394000 x394001 x394002 x394003 x394004 x394005) else (if x394002 = (wrap64 (-(wrap64 ((wrap64 (4 * x0)) - 8)))) then (vernierref07_Cut.j1 k x0 x10 x11 x394000 x394001 x394002 x394003 x394004 x394005) else (vernierref07_Cut.j1 k x0 x10 false x394000 x394001 x394002 x394003 x394004 x394005)))
def vernierref07_Cut.j1 : Nat → Int → ByteArray → Bool → Int → Bool → Int → Int → Int → Bool → Option (Int × Int × Int)
  | 0, _, _, _, _, _, _, _, _, _ => none
  | k + 1, x0, x10, x73, x394000, x394001, x394002, x394003, x394004, x394005 => if x73 = true then (some (1, 0, 0)) else ((vernierref06_Head.f k x394002).bind fun t401 => (if t401.size + x10.size ≤ 9223372036854775807 then (if 0 ≤ (wrap64 (x0 - 1)) then (if (wrap64 (x0 - 1)) ≤ ((t401 ++ x10).size : Int) then ((vernierref01_Number.f k ((t401 ++ x10).extract 0 ((wrap64 (x0 - 1)) : Int).toNat)).bind fun t402 => ((vernierref07_left.f k ((t401 ++ x10).extract ((wrap64 (x0 - 1)) : Int).toNat (t401 ++ x10).size) x394005).bind fun t403 => (some (t402, t403, 0)))) else (none)) else (none)) else (none)))
end
def vernierref07_Rounds.j0 : Nat → Int → Int → Bool → Int → Bool → Int → Int → Int → Bool → Option (Int × Int)
  | 0, _, _, _, _, _, _, _, _, _ => none
  | k + 1, x0, x6, x29, x411000, x411001, x411002, x411003, x411004, x411005 => if x29 = true then (if x411001 = true then ((vernierref06_Neg.f k x0 (IntKind.u64.wrap (x6 + 1))).bind fun t414 => (some (t414, 0))) else (some (IntKind.u64.wrap (x6 + 1), 0))) else (if x411001 = true then ((vernierref06_Neg.f k x0 x6).bind fun t415 => (some (t415, 0))) else (some (x6, 0)))
end Go.Proofs.Ytlllaoihpkdpmaa.F
