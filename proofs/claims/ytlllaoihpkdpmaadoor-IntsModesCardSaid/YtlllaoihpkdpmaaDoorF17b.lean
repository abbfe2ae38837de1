/- Functions of the given program as plain Lean functions, and for each a proof that the program's call comes to just these answers; no further conditions. (Written by a program of this repo out of the translation.) -/
import Derived.Test.YtlllaoihpkdpmaaDoorF0b
import Derived.Test.YtlllaoihpkdpmaaDoorF1b
import Derived.Test.YtlllaoihpkdpmaaDoorF12b
import Derived.Test.YtlllaoihpkdpmaaDoorF13b
import Derived.Test.YtlllaoihpkdpmaaDoorF14b
import Derived.Test.YtlllaoihpkdpmaaDoorF15b
import Derived.Test.YtlllaoihpkdpmaaDoorF18b
namespace Go.Proofs.YtlllaoihpkdpmaaDoor.F
open Go.RowKit Go.Proofs.YtlllaoihpkdpmaaDoorW.PrintWords Go.Proofs.YtlllaoihpkdpmaaDoorW.PrintLast Go.Proofs.YtlllaoihpkdpmaaDoorW.PrintMore
attribute [local go_sem high] xor_u64 xor_u32 eqErr25 neErr25 eqErrL25 neErrL25
attribute [local go_sem] max2_int min2_int max_two min_two max_three min_three max_four min_four   -- for this text's walks alone
set_option linter.unusedVariables false
set_option linter.unusedSimpArgs false
attribute [local go_sem high] eqA61
def vernierref07_some.l0 : Nat → ByteArray → Int → Option (Bool)
  | 0, _, _ => none
  | k + 1, x0, x3 => if x3 < (x0.size : Int) then (if 0 ≤ x3 then (if (bt x0 x3) = 49 then (some true) else (vernierref07_some.l0 k x0 (wrap64 (x3 + 1)))) else (none)) else (some false)
def vernierref07_some.f (k : Nat) (a0 : ByteArray) : Option (Bool) := vernierref07_some.l0 k a0 0
mutual
def vernierref07_left.j0 : Nat → ByteArray → Bool → Option (Int)
  | 0, _, _ => none
  | k + 1, x0, x1 => if 1 ≤ (x0.size : Int) then ((vernierref07_some.f k (x0.extract 1 x0.size)).bind fun t499 => (if 0 < (x0.size : Int) then (if (bt x0 0) = 49 then (if t499 = true then (vernierref07_left.j1 k x0 x1 t499 true) else (vernierref07_left.j1 k x0 x1 t499 x1)) else (vernierref07_left.j1 k x0 x1 t499 false)) else (none))) else (none)
def vernierref07_left.j1 : Nat → ByteArray → Bool → Bool → Bool → Option (Int)
  | 0, _, _, _, _ => none
  | k + 1, x0, x1, x5, x11 => if x11 = true then (some 3) else (if 0 < (x0.size : Int) then (if (bt x0 0) = 49 then (some 2) else (if x5 = true then (some 1) else (if x1 = true then (some 1) else (some 0)))) else (none))
end
def vernierref07_left.f (k : Nat) (a0 : ByteArray) (a1 : Bool) : Option (Int) := if a0.toList = ([] : List UInt8) then (vernierref07_left.j0 k (⟨#[48]⟩ : ByteArray) a1) else (vernierref07_left.j0 k a0 a1)
mutual
def vernierref07_Cut.j0 : Nat → Int → ByteArray → Bool → Int → Bool → Int → Int → Int → Bool → Option (Int × Int × Int)
  | 0, _, _, _, _, _, _, _, _, _ => none
  | k + 1, x0, x10, x11, x501000, x501001, x501002, x501003, x501004, x501005 => if x501002 ≥ (wrap64 ((wrap64 (4 * x0)) - 8)) then ((vernierref05_Power.f k (wrap64 (x0 - 1))).bind fun t507 => (some (IntKind.u64.wrap (t507 - 1), 0, 0))) else (if x501002 < (wrap64 (-(wrap64 ((wrap64 (4 * x0)) - 8)))) then (vernierref07_Cut.j1 k x0 x10 true x501000 x501001 x501002 x501003 x501004 x501005) else (if x501002 = (wrap64 (-(wrap64 ((wrap64 (4 * x0)) - 8)))) then (vernierref07_Cut.j1 k x0 x10 x11 x501000 x501001 x501002 x501003 x501004 x501005) else (vernierref07_Cut.j1 k x0 x10 false x501000 x501001 x501002 x501003 x501004 x501005)))
def vernierref07_Cut.j1 : Nat → Int → ByteArray → Bool → Int → Bool → Int → Int → Int → Bool → Option (Int × Int × Int)
  | 0, _, _, _, _, _, _, _, _, _ => none
  | k + 1, x0, x10, x73, x501000, x501001, x501002, x501003, x501004, x501005 => if x73 = true then (some (1, 0, 0)) else ((vernierref06_Head.f k x501002).bind fun t508 => (if t508.size + x10.size ≤ 9223372036854775807 then (if 0 ≤ (wrap64 (x0 - 1)) then (if (wrap64 (x0 - 1)) ≤ ((t508 ++ x10).size : Int) then ((vernierref01_Number.f k ((t508 ++ x10).extract 0 ((wrap64 (x0 - 1)) : Int).toNat)).bind fun t509 => ((vernierref07_left.f k ((t508 ++ x10).extract ((wrap64 (x0 - 1)) : Int).toNat (t508 ++ x10).size) x501005).bind fun t510 => (some (t509, t510, 0)))) else (none)) else (none)) else (none)))
end
def vernierref07_Rounds.j0 : Nat → Int → Int → Bool → Int → Bool → Int → Int → Int → Bool → Option (Int × Int)
  | 0, _, _, _, _, _, _, _, _, _ => none
  | k + 1, x0, x6, x29, x515000, x515001, x515002, x515003, x515004, x515005 => if x29 = true then (if x515001 = true then ((vernierref06_Neg.f k x0 (IntKind.u64.wrap (x6 + 1))).bind fun t518 => (some (t518, 0))) else (some (IntKind.u64.wrap (x6 + 1), 0))) else (if x515001 = true then ((vernierref06_Neg.f k x0 x6).bind fun t519 => (some (t519, 0))) else (some (x6, 0)))
mutual
def vernierref07_Exactly.j0 : Nat → List Int → Bool → Int → Int → Bool → Int → Int → Int → Bool → Option (Int × Bool × Int × Int × Int × Bool)
  | 0, _, _, _, _, _, _, _, _, _ => none
  | k + 1, x1, x3, x9, x529000, x529001, x529002, x529003, x529004, x529005 => if x9 > 128 then ((vernierref04_Low.f k x1 (wrap64 (x9 - 128))).bind fun t532 => (if x3 = true then (vernierref07_Exactly.j1 k x1 x9 x529000 x529001 x529002 x529003 x529004 true) else (vernierref07_Exactly.j1 k x1 x9 x529000 x529001 x529002 x529003 x529004 t532))) else ((vernierref04_Word.f k x1).bind fun t541 => ((vernierref04_Shr.f k x1 64).bind fun t542 => ((vernierref04_Word.f k t542).bind fun t545 => (some (x529000, x529001, x529002, t545, t541, x529005)))))
def vernierref07_Exactly.j1 : Nat → List Int → Int → Int → Bool → Int → Int → Int → Bool → Option (Int × Bool × Int × Int × Int × Bool)
  | 0, _, _, _, _, _, _, _, _ => none
  | k + 1, x1, x9, x529000, x529001, x529002, x529003, x529004, x529005 => (vernierref04_Shr.f k x1 (wrap64 (x9 - 128))).bind fun t533 => ((vernierref04_Word.f k t533).bind fun t536 => ((vernierref04_Shr.f k t533 64).bind fun t537 => ((vernierref04_Word.f k t537).bind fun t540 => (some (x529000, x529001, x529002, t540, t536, x529005)))))
end
end Go.Proofs.YtlllaoihpkdpmaaDoor.F
