/- Functions of the given program as plain Lean functions, and for each a proof that the program's call comes to just these answers; no further conditions. (Written by a program of this repo out of the translation.) -/
import Derived.Test.YtpdpggndhmnggaaF0g
namespace Go.Proofs.Ytpdpggndhmnggaa.F
open Go.RowKit Go.Proofs.YtpdpggndhmnggaaW.PrintWords Go.Proofs.YtpdpggndhmnggaaW.PrintLast Go.Proofs.YtpdpggndhmnggaaW.PrintMore
attribute [local go_sem high] xor_u64 xor_u32 eqErr25 neErr25 eqErrL25 neErrL25
attribute [local go_sem] max2_int min2_int max_two min_two max_three min_three max_four min_four   -- for this text's walks alone
set_option linter.unusedVariables false
set_option linter.unusedSimpArgs false
def vernierref04_two.l0 : Nat → Int → Int → Int → Option (Int)
 | 0, _, _, _ => none
 | k + 1, x0, x3, x4 => if x4 < x0 then (vernierref04_two.l0 k x0 (wrap64 (2 * x3)) (wrap64 (x4 + 1))) else (some x3)
def vernierref04_two.f (k : Nat) (a0 : Int) : Option (Int) := vernierref04_two.l0 k a0 1 0
def vernierref04_digit.f (l0 : List Int) (a1 : Int) : Option (Int) := if a1 < (l0.length : Int) then (if 0 ≤ a1 then (some (rd l0 a1)) else (none)) else (some 0)
def vernierref04_Cut.l0 : Nat → List Int → Int → Option (List Int)
 | 0, _, _ => none
 | k + 1, x0, x3 => if x3 > 0 then (if 0 ≤ (wrap64 (x3 - 1)) then (if (wrap64 (x3 - 1)) < (x0.length : Int) then (if (rd x0 (wrap64 (x3 - 1))) = 0 then (vernierref04_Cut.l0 k x0 (wrap64 (x3 - 1))) else (if 0 ≤ x3 then (if x3 ≤ (x0.length : Int) then (some (x0.take (x3 : Int).toNat)) else (none)) else (none))) else (none)) else (none)) else (if 0 ≤ x3 then (if x3 ≤ (x0.length : Int) then (some (x0.take (x3 : Int).toNat)) else (none)) else (none))
def vernierref04_Cut.f (k : Nat) (l0 : List Int) : Option (List Int) := vernierref04_Cut.l0 k l0 (l0.length : Int)
def vernierref04_Shr.l0 : Nat → List Int → Int → List Int → Int → Option (List Int)
 | 0, _, _, _, _ => none
 | k + 1, x5, x6, x7, x8 => if x8 < (x5.length : Int) then (if 0 ≤ x8 then (if x6 = 0 then (none) else ((vernierref04_digit.f x5 (wrap64 (x8 + 1))).bind fun t351 => (if x8 < (x7.length : Int) then (vernierref04_Shr.l0 k x5 x6 (x7.set (x8 : Int).toNat (wrap64 ((wrap64 (Int.tdiv (rd x5 x8) x6)) + (wrap64 ((Int.tmod t351 x6) * (wrap64 (Int.tdiv 16777216 x6))))))) (wrap64 (x8 + 1))) else (none)))) else (none)) else ((vernierref04_Cut.f k x7).bind fun t353 => (some t353))
def vernierref04_Shr.f (k : Nat) (l0 : List Int) (a1 : Int) : Option (List Int) := if (wrap64 (Int.tdiv a1 24)) ≥ (l0.length : Int) then (some ([] : List Int)) else (if 0 ≤ (wrap64 (Int.tdiv a1 24)) then (if (wrap64 (Int.tdiv a1 24)) ≤ (l0.length : Int) then ((vernierref04_two.f k (Int.tmod a1 24)).bind fun t346 => (if 0 ≤ ((l0.drop ((wrap64 (Int.tdiv a1 24)) : Int).toNat).length : Int) then (if (((l0.drop ((wrap64 (Int.tdiv a1 24)) : Int).toNat).length : Int) : Int).toNat ≤ 35184372088832 then (vernierref04_Shr.l0 k (l0.drop ((wrap64 (Int.tdiv a1 24)) : Int).toNat) t346 (List.replicate (((l0.drop ((wrap64 (Int.tdiv a1 24)) : Int).toNat).length : Int) : Int).toNat 0) 0) else (none)) else (none))) else (none)) else (none))
def vernierref04_times.l0 : Nat → List Int → Int → List Int → Int → Int → Option (List Int)
 | 0, _, _, _, _, _ => none
 | k + 1, x0, x1, x5, x6, x7 => if x7 < (x0.length : Int) then (if x1 > 0 then ((vernierref04_digit.f x0 x7).bind fun t356 => (if x5.length < 17592186044416 then (vernierref04_times.l0 k x0 x1 (x5 ++ [Int.tmod (wrap64 ((wrap64 (t356 * x1)) + x6)) 16777216]) (wrap64 (Int.tdiv (wrap64 ((wrap64 (t356 * x1)) + x6)) 16777216)) (wrap64 (x7 + 1))) else (none))) else (if x6 > 0 then ((vernierref04_digit.f x0 x7).bind fun t360 => (if x5.length < 17592186044416 then (vernierref04_times.l0 k x0 x1 (x5 ++ [Int.tmod (wrap64 ((wrap64 (t360 * x1)) + x6)) 16777216]) (wrap64 (Int.tdiv (wrap64 ((wrap64 (t360 * x1)) + x6)) 16777216)) (wrap64 (x7 + 1))) else (none))) else (some x5))) else (if x6 > 0 then ((vernierref04_digit.f x0 x7).bind fun t364 => (if x5.length < 17592186044416 then (vernierref04_times.l0 k x0 x1 (x5 ++ [Int.tmod (wrap64 ((wrap64 (t364 * x1)) + x6)) 16777216]) (wrap64 (Int.tdiv (wrap64 ((wrap64 (t364 * x1)) + x6)) 16777216)) (wrap64 (x7 + 1))) else (none))) else (some x5))
def vernierref04_times.f (k : Nat) (l0 : List Int) (a1 : Int) : Option (List Int) := vernierref04_times.l0 k l0 a1 ([] : List Int) 0 0
def vernierref04_Shl.f (k : Nat) (l0 : List Int) (a1 : Int) : Option (List Int) := if (l0.length : Int) = 0 then (some ([] : List Int)) else (if 0 ≤ (wrap64 (Int.tdiv a1 24)) then (if (wrap64 (Int.tdiv a1 24) : Int).toNat ≤ 35184372088832 then ((some (List.replicate (wrap64 (Int.tdiv a1 24) : Int).toNat 0 : List Int)).bind fun y368 => ((vernierref04_two.f k (Int.tmod a1 24)).bind fun t371 => ((vernierref04_times.f k l0 t371).bind fun t372 => (if y368.length + t372.length < 17592186044416 then (some (y368 ++ t372)) else (none))))) else (none)) else (none))
mutual
def vernierref04_Low.l0 : Nat → List Int → Int → Int → Option (Bool)
 | 0, _, _, _ => none
 | k + 1, x0, x1, x5 => if x5 < (x0.length : Int) then (vernierref04_Low.j1 k x0 x1 x5 (decide ((wrap64 (24 * x5)) < x1))) else (vernierref04_Low.j1 k x0 x1 x5 false)
def vernierref04_Low.j1 : Nat → List Int → Int → Int → Bool → Option (Bool)
 | 0, _, _, _, _ => none
 | k + 1, x0, x1, x5, x16 => if x16 = true then (if (wrap64 (x1 - (wrap64 (24 * x5)))) < 24 then ((vernierref04_two.f k (wrap64 (x1 - (wrap64 (24 * x5))))).bind fun t378 => (if 0 ≤ x5 then (if x5 < (x0.length : Int) then (if t378 = 0 then (none) else (if (Int.tmod (rd x0 x5) t378) = 0 then (vernierref04_Low.l0 k x0 x1 (wrap64 (x5 + 1))) else (some true))) else (none)) else (none))) else (if 0 ≤ x5 then (if x5 < (x0.length : Int) then (if (Int.tmod (rd x0 x5) 16777216) = 0 then (vernierref04_Low.l0 k x0 x1 (wrap64 (x5 + 1))) else (some true)) else (none)) else (none))) else (some false)
end
def vernierref04_Low.f (k : Nat) (l0 : List Int) (a1 : Int) : Option (Bool) := vernierref04_Low.l0 k l0 a1 0
def vernierref04_Word.l0 : Nat → List Int → Int → Int → Option (Int)
 | 0, _, _, _ => none
 | k + 1, x0, x3, x4 => if x4 ≥ 0 then ((vernierref04_digit.f x0 x4).bind fun t381 => (vernierref04_Word.l0 k x0 (IntKind.u64.wrap ((IntKind.u64.wrap (x3 * 16777216)) + (IntKind.u64.wrap (t381)))) (wrap64 (x4 - 1)))) else (some x3)
def vernierref04_Word.f (k : Nat) (l0 : List Int) : Option (Int) := vernierref04_Word.l0 k l0 0 2
def vernierref04_Bits.l0 : Nat → Int → Int → Option (Int)
 | 0, _, _ => none
 | k + 1, x3, x4 => if x4 > 0 then (vernierref04_Bits.l0 k (wrap64 (x3 + 1)) (wrap64 (Int.tdiv x4 2))) else (some x3)
def vernierref04_Of.l0 : Nat → Int → List Int → Option (List Int)
 | 0, _, _ => none
 | k + 1, x0, x3 => if x0 > 0 then (if x3.length < 17592186044416 then (vernierref04_Of.l0 k (IntKind.u64.wrap (Int.tdiv x0 16777216)) (x3 ++ [wrap64 (Int.tmod x0 16777216)])) else (none)) else (some x3)
def vernierref04_Of.f (k : Nat) (a0 : Int) : Option (List Int) := vernierref04_Of.l0 k a0 ([] : List Int)
def vernierref04_Sub.l0 : Nat → List Int → List Int → List Int → Int → Int → Option (List Int)
 | 0, _, _, _, _, _ => none
 | k + 1, x0, x1, x5, x6, x7 => if x7 < (x0.length : Int) then (if 0 ≤ x7 then ((vernierref04_digit.f x1 x7).bind fun t534 => (if (wrap64 ((wrap64 ((rd x0 x7) - t534)) - x6)) < 0 then (if x5.length < 17592186044416 then (vernierref04_Sub.l0 k x0 x1 (x5 ++ [wrap64 ((wrap64 ((wrap64 ((rd x0 x7) - t534)) - x6)) + 16777216)]) 1 (wrap64 (x7 + 1))) else (none)) else (if x5.length < 17592186044416 then (vernierref04_Sub.l0 k x0 x1 (x5 ++ [wrap64 ((wrap64 ((rd x0 x7) - t534)) - x6)]) 0 (wrap64 (x7 + 1))) else (none)))) else (none)) else ((vernierref04_Cut.f k x5).bind fun t541 => (some t541))
def vernierref04_Sub.f (k : Nat) (l0 : List Int) (l1 : List Int) : Option (List Int) := vernierref04_Sub.l0 k l0 l1 ([] : List Int) 0 0
def vernierref04_Cmp.l0 : Nat → List Int → List Int → Int → Option (Int)
 | 0, _, _, _ => none
 | k + 1, x0, x1, x5 => if x5 ≥ 0 then (if 0 ≤ x5 then (if x5 < (x0.length : Int) then (if x5 < (x1.length : Int) then (if (rd x0 x5) < (rd x1 x5) then (some (-1)) else (if (rd x0 x5) > (rd x1 x5) then (some 1) else (vernierref04_Cmp.l0 k x0 x1 (wrap64 (x5 - 1))))) else (none)) else (none)) else (none)) else (some 0)
def vernierref04_Cmp.f (k : Nat) (l0 : List Int) (l1 : List Int) : Option (Int) := if (l0.length : Int) = (l1.length : Int) then (vernierref04_Cmp.l0 k l0 l1 (wrap64 ((l0.length : Int) - 1))) else (if (l0.length : Int) < (l1.length : Int) then (some (-1)) else (some 1))
mutual
def vernierref04_Add.l0 : Nat → List Int → List Int → List Int → Int → Int → Option (List Int)
 | 0, _, _, _, _, _ => none
 | k + 1, x0, x1, x5, x6, x7 => if x7 < (x0.length : Int) then (vernierref04_Add.j1 k x0 x1 x5 x6 x7 true) else (if x7 < (x1.length : Int) then (vernierref04_Add.j1 k x0 x1 x5 x6 x7 true) else (vernierref04_Add.j1 k x0 x1 x5 x6 x7 (decide (x6 > 0))))
def vernierref04_Add.j1 : Nat → List Int → List Int → List Int → Int → Int → Bool → Option (List Int)
 | 0, _, _, _, _, _, _ => none
 | k + 1, x0, x1, x5, x6, x7, x22 => if x22 = true then ((vernierref04_digit.f x0 x7).bind fun t548 => ((vernierref04_digit.f x1 x7).bind fun t549 => (if x5.length < 17592186044416 then (vernierref04_Add.l0 k x0 x1 (x5 ++ [Int.tmod (wrap64 ((wrap64 (t548 + t549)) + x6)) 16777216]) (wrap64 (Int.tdiv (wrap64 ((wrap64 (t548 + t549)) + x6)) 16777216)) (wrap64 (x7 + 1))) else (none)))) else (some x5)
end
def vernierref04_Add.f (k : Nat) (l0 : List Int) (l1 : List Int) : Option (List Int) := vernierref04_Add.l0 k l0 l1 ([] : List Int) 0 0
end Go.Proofs.Ytpdpggndhmnggaa.F
