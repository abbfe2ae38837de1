/- math.Ldexp by the bits. -/
import Derived.Test.YtpdpggndhmnggaaF3g
import Derived.Test.YtpdpggndhmnggaaFlo2g
namespace Go.Proofs.Ytpdpggndhmnggaa.M
open Go.RowKit Go.Proofs.YtpdpggndhmnggaaW.PrintWords Go.Proofs.YtpdpggndhmnggaaW.PrintLast Go.Proofs.YtpdpggndhmnggaaW.PrintMore Go.Proofs.Ytpdpggndhmnggaa.F
set_option linter.unusedVariables false
set_option linter.unusedSimpArgs false
theorem obind {α β : Type} {x : Option α} {f : α → Option β} {a : α} {r : Option β} (h : x = some a) (k : f a = r) : x.bind f = r := by subst h; exact k
theorem Ldexp_core {X Y Z m E F : Nat} {e : Int} (hz : ¬ ((FloatKind.f64.format.order X 0 == some .eq) = true)) (hi : math_IsInf.f X 0 = some false) (hnn : math_IsNaN.f X = some false) (hnm : math_normalize.f X = some (X, 0))
    (hb : Go.bits .andNot .u64 (X : Int) 9218868437227405312 = (m : Int)) (hx3 : (X : Int) / 4503599627370496 = (E : Int)) (g1 : wrap64 (E : Int) = (E : Int)) (e2 : Go.bits .and .i64 (E : Int) 2047 = (E : Int)) (g2 : wrap64 ((E : Int) - 1023) = (E : Int) - 1023)
    (g3 : wrap64 (e + 0) = e) (g4 : wrap64 (e + ((E : Int) - 1023)) = (F : Int) - 1023) (t1 : ¬ ((F : Int) - 1023 < -1075)) (t2 : ¬ ((F : Int) - 1023 > 1023)) (t3 : ¬ ((F : Int) - 1023 < -1022)) (g5 : wrap64 ((F : Int) - 1023 + 1023) = (F : Int)) (g6 : IntKind.u64.wrap (F : Int) = (F : Int))
    (eF : IntKind.u64.wrap ((F : Int) * 4503599627370496) = (Z : Int)) (e1 : Go.bits .or .u64 (m : Int) (Z : Int) = (Y : Int)) (hm1 : floatBits .mul .f64 4607182418800017408 Y = some Y) : math_Ldexp.f X e = some Y := by
  unfold math_Ldexp.f
  refine obind (a := Y) ?_ rfl
  unfold math_ldexp.f
  refine (if_neg hz).trans ?_
  refine obind hi ?_
  refine (if_neg (by decide)).trans ?_
  refine obind hnn ?_
  refine (if_neg (by decide)).trans ?_
  refine obind hnm ?_
  refine obind (a := ((X : Nat) : Int)) rfl ?_
  dsimp only
  rw [hb, hx3, g1, e2, g2, g3, g4, if_neg t1, if_neg t2, if_neg t3, g5, g6, eF, e1]
  refine obind (a := Y) (by unfold math_Float64frombits.f; rw [Int.toNat_natCast]) ?_
  rw [hm1]
  exact (if_pos rfl).trans rfl
theorem Ldexp_arith {E F : Nat} {e : Int} (hE0 : 0 < E) (hE : E < 2047) (h0 : 1 ≤ F) (h1 : F ≤ 2046) (hF : (E : Int) + e = (F : Int)) :
    wrap64 (E : Int) = (E : Int) ∧ wrap64 ((E : Int) - 1023) = (E : Int) - 1023 ∧ wrap64 (e + 0) = e ∧ wrap64 (e + ((E : Int) - 1023)) = (F : Int) - 1023 ∧ ¬ ((F : Int) - 1023 < -1075) ∧ ¬ ((F : Int) - 1023 > 1023) ∧ ¬ ((F : Int) - 1023 < -1022) ∧ wrap64 ((F : Int) - 1023 + 1023) = (F : Int) ∧ IntKind.u64.wrap (F : Int) = (F : Int) := by
  refine ⟨w64 (by omega) (by omega), w64 (by omega) (by omega), by rw [Int.add_zero]; exact w64 (by omega) (by omega), by rw [show e + ((E : Int) - 1023) = (F : Int) - 1023 by omega]; exact w64 (by omega) (by omega), by omega, by omega, by omega, by rw [show (F : Int) - 1023 + 1023 = (F : Int) by omega]; exact w64 (by omega) (by omega), u64s (by omega) (by omega)⟩
theorem andi_exp {E : Nat} (hE : E < 2048) : Go.bits .and .i64 (E : Int) 2047 = (E : Int) := by
  rw [show (2047 : Int) = ((2047 : Nat) : Int) from rfl, andi_nat (by omega) (by decide)]
  have := Nat.and_two_pow_sub_one_eq_mod E 11
  rw [show (2 ^ 11 - 1 : Nat) = 2047 from rfl, Nat.mod_eq_of_lt (show E < 2 ^ 11 by omega)] at this
  rw [this]
theorem not_zero {X : Nat} (h0 : 0 < X) (h : X < 9218868437227405312) : ¬ ((FloatKind.f64.format.order X 0 == some .eq) = true) := by rw [ord_zero (by omega), decide_eq_false (by omega)]; decide
theorem not_inf {X : Nat} (h : X < 9218868437227405312) : math_IsInf.f X 0 = some false := by rw [IsInf_eq (by omega), Nat.mod_eq_of_lt (by omega), decide_eq_false (by omega)]
theorem not_nan {X : Nat} (h : X < 9218868437227405312) : math_IsNaN.f X = some false := by rw [IsNaN_eq, Nat.mod_eq_of_lt (by omega), decide_eq_false (by omega)]
theorem wrapF {F : Nat} (h : F ≤ 2046) : IntKind.u64.wrap ((F : Int) * 4503599627370496) = ((F * 4503599627370496 : Nat) : Int) := by rw [u64w]; omega
theorem orF {F m : Nat} (h1 : F * 4503599627370496 < 18446744073709551616) (hm : m < 4503599627370496) : Go.bits .or .u64 (m : Int) ((F * 4503599627370496 : Nat) : Int) = ((F * 4503599627370496 + m : Nat) : Int) := or_addF (n := 52) h1 (by decide) hm (by rw [show (2 ^ 52 : Nat) = 4503599627370496 from rfl, Nat.mul_mod_left])
/-- Ldexp of a normal number, where the answer is one. -/
theorem Ldexp_eq {E F m : Nat} {e : Int} (hE0 : 0 < E) (hE : E < 2047) (hm : m < 4503599627370496) (h0 : 1 ≤ F) (h1 : F ≤ 2046) (hF : (E : Int) + e = (F : Int)) :
    math_Ldexp.f (E * 4503599627370496 + m) e = some (F * 4503599627370496 + m) := by
  obtain ⟨_, x2, x3, _, _⟩ := bigF (F := E) hE0 (Nat.le_of_lt_succ hE) hm
  obtain ⟨f1, _, _, _, _⟩ := bigF h0 h1 hm
  obtain ⟨g1, g2, g3, g4, t1, t2, t3, g5, g6⟩ := Ldexp_arith hE0 hE h0 h1 hF
  exact Ldexp_core (not_zero (Nat.lt_of_lt_of_le (by decide) x2) x3) (not_inf x3) (not_nan x3) (norm_high x2 x3) (bare (Nat.lt_of_lt_of_le hE (by decide)) hm) (expo (Nat.lt_of_lt_of_le hE (by decide)) hm) g1 (andi_exp (Nat.lt_of_lt_of_le hE (by decide))) g2 g3 g4 t1 t2 t3 g5 g6 (wrapF h1) (orF f1 hm) (mul_one_eq h0 h1 hm)
theorem toInt_eq {M : Nat} (h1 : 4503599627370496 ≤ M) (h2 : M < 9007199254740992) : floatToIntVal .f64 (4836865999795912704 + M) .u64 = some (M : Int) := by
  have hr := read_high (r := 4836865999795912704 + M) (by omega) (by omega)
  rw [show (4836865999795912704 + M) % 4503599627370496 = M - 4503599627370496 by omega, show (4836865999795912704 + M) / 4503599627370496 - 1 = 1074 by omega, show 4503599627370496 + (M - 4503599627370496) = M by omega] at hr
  unfold floatToIntVal
  have e : (FloatKind.f64.decode (4836865999795912704 + M)).toInt .zero = some (M : Int) := by
    show (Ieee.double.read (4836865999795912704 + M)).toInt .zero = _
    rw [hr]
    show (match Ieee.Datum.number false (Ieee.Toward.zero.cut false (M <<< 0) 0) 0 with | .number s m _ => some (Ieee.signed s m 0) | _ => none) = _
    show some (((Ieee.Toward.zero.cut false (M <<< 0) 0 <<< 0 : Nat) : Int)) = _
    rw [Nat.shiftLeft_zero, Nat.shiftLeft_zero]
    congr 2
    unfold Ieee.Toward.cut
    simp
  rw [e]
  simp only
  rw [if_pos ⟨by show (0 : Int) ≤ M; omega, by show (M : Int) ≤ 18446744073709551615; omega⟩]
end Go.Proofs.Ytpdpggndhmnggaa.M
