/- Both sides of From64 joined. -/
import Derived.Test.YtpdpggndhmnggaaF8a
import Derived.Test.YtpdpggndhmnggaaF12a
import Derived.Test.YtpdpggndhmnggaaF15a
import Derived.Test.YtpdpggndhmnggaaFlo5a
namespace Go.Proofs.Ytpdpggndhmnggaa.M
open Go.RowKit Go.Proofs.YtpdpggndhmnggaaW.PrintWords Go.Proofs.YtpdpggndhmnggaaW.PrintLast Go.Proofs.YtpdpggndhmnggaaW.PrintMore Go.Proofs.Ytpdpggndhmnggaa.F
set_option linter.unusedVariables false
set_option linter.unusedSimpArgs false
/-- Below infinity the reference's number is the program's. -/
theorem rdF_ref {n b : Nat} (hb : b < 18446744073709551616) (h : b % 9223372036854775808 < 9218868437227405312) :
    rdV n (b / 9223372036854775808 == 1) (-1074 + ((b / 4503599627370496 % 2048 - 1 : Nat) : Int)) (if 0 < b / 4503599627370496 % 2048 then b % 4503599627370496 + 4503599627370496 else b % 4503599627370496) = rdF n b := by
  unfold rdF
  have hE : b / 4503599627370496 % 2048 = b % 9223372036854775808 / 4503599627370496 := by omega
  have hM : b % 4503599627370496 = b % 9223372036854775808 % 4503599627370496 := by omega
  rw [hE, hM]
  generalize (b / 9223372036854775808 == 1) = s
  generalize b % 9223372036854775808 = r at *
  by_cases c : r < 4503599627370496
  · rw [Nat.div_eq_of_lt c, if_neg (by omega), Nat.mod_eq_of_lt c]
    by_cases c0 : r = 0
    · subst c0; rw [if_pos rfl]; rfl
    · rw [if_neg c0]
      have hb1 : blen r ≤ 52 := blen_le_of c
      have := rdV_shl (n := n) (neg := s) (e := -1074) (v := r) (k := 53 - blen r) (by omega)
      unfold mD pD
      rw [if_pos c, if_pos c, show (-1074 : Int) + ((0 - 1 : Nat) : Int) = -1074 from rfl, ← this]
      congr 1
      omega
  · have hq : 0 < r / 4503599627370496 := by omega
    rw [if_pos hq, if_neg (by omega)]
    unfold mD pD
    rw [if_neg c, if_neg c, Nat.add_comm]
    congr 1
    omega
theorem From64_no {a : Int} {b : Nat} (hn : NoW a) (hb : b < 18446744073709551616) : Ev (fun k => flt_From64.f k a b) (0, some 2) := by
  have hj : Ev (fun k => flt_From64.j0 k a b false 2 false 0 0 0 false) (0, some 2) := by
    refine Ev.step (f := fun k => (round_Round.f k a 2 false 0 0 0 false).bind fun bt => some (bt.1, bt.2)) (fun k => ?_) (Ev.bind (Round_no hn) (Ev.now _))
    simp only [flt_From64.j0]
    rw [if_neg (by decide)]
  unfold flt_From64.f
  by_cases c : 9218868437227405312 < b % 9223372036854775808
  · refine Ev.bindp (IsNaN_eq b) ?_
    rw [decide_eq_true c]
    exact Ev.congr (fun k => if_pos rfl) hj
  · have hN : math_IsNaN.f b = some false := by rw [IsNaN_eq, decide_eq_false c]
    refine Ev.bindp hN (Ev.congr (fun k => if_neg (by decide)) (Ev.bindp (IsInf_eq hb) ?_))
    by_cases c2 : b % 9223372036854775808 = 9218868437227405312
    · rw [decide_eq_true c2]; exact hj
    · rw [decide_eq_false c2]
      have h : b % 9223372036854775808 < 9218868437227405312 := by omega
      refine Ev.step (fun k => by simp only [flt_From64.j0]; rw [if_pos (by rfl)]) (Ev.bindp (Abs_eq hb) ?_)
      generalize hr : b % 9223372036854775808 = r at *
      generalize (FloatKind.f64.format.order b 0 == some .lt) = neg
      have fin : ∀ M : Nat, M < 18446744073709551616 → ∀ P : Int, -1000000 ≤ P → P ≤ 1000000 → Ev (fun k => (round_Make.f k neg 0 (M : Int) P false).bind fun bt239 => if bt239.2.2.2.2.2.2.isNone = true then (round_Round.f k a bt239.1 bt239.2.1 bt239.2.2.1 bt239.2.2.2.1 bt239.2.2.2.2.1 bt239.2.2.2.2.2.1).bind fun bt248 => some (bt248.1, bt248.2) else some (0, some (bt239.2.2.2.2.2.2.getD 0))) (0, some 2) := by
        intro M hM P p0 p1
        refine Ev.bind (Make_ev (neg := neg) (rest := false) (h := 0) (l := M) (e := P) (by decide) hM (by omega) (by omega) (fun h => by cases h)) ?_
        split
        · exact Ev.congr (fun k => if_pos rfl) (Ev.bind (Round_no hn) (Ev.now _))
        · exact Ev.congr (fun k => if_pos rfl) (Ev.bind (Round_no hn) (Ev.now _))
      by_cases c0 : r = 0
      · subst c0
        have f0 : Ev (fun k => math_Frexp.f k 0) (0, 0) := by
          unfold math_Frexp.f math_frexp.f
          refine Ev.bind (a := (0, 0)) ?_ (Ev.now _)
          exact Ev.congr (fun k => if_pos (by rw [ord_zero (by omega)]; rfl)) (Ev.now _)
        have l0 : math_Ldexp.f 0 53 = some 0 := by
          unfold math_Ldexp.f
          refine obind (a := 0) ?_ rfl
          unfold math_ldexp.f
          exact if_pos (by rw [ord_zero (by omega)]; rfl)
        have i0 : floatToIntVal .f64 0 .u64 = some 0 := by decide
        refine Ev.bind f0 (Ev.bindp l0 ?_)
        rw [i0]
        refine Ev.congr (fun k => if_pos rfl) ?_
        rw [show wrap64 (0 - 53) = -53 from w64 (by decide) (by decide)]
        exact fin 0 (by decide) (-53) (by decide) (by decide)
      · obtain ⟨b1, b2, b3, b4⟩ := mD_bounds (r := r) (by omega) h
        refine Ev.bind (Frexp_ev (by omega) h) (Ev.bindp (Ldexp_frac b1 b2) ?_)
        rw [toInt_eq b1 b2]
        refine Ev.congr (fun k => if_pos rfl) ?_
        have hw : wrap64 (pD r + 53 - 53) = pD r := by rw [show pD r + 53 - 53 = pD r by omega]; exact w64 (by omega) (by omega)
        simp only [hw, Option.getD_some]
        exact fin (mD r) (by omega) (pD r) (by omega) (by omega)
end Go.Proofs.Ytpdpggndhmnggaa.M
