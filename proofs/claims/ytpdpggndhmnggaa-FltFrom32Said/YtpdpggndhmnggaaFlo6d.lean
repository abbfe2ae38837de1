/- The reference's Form.From. -/
import Derived.Test.YtpdpggndhmnggaaF15d
import Derived.Test.YtpdpggndhmnggaaF16d
import Derived.Test.YtpdpggndhmnggaaF17d
import Derived.Test.YtpdpggndhmnggaaF18d
import Derived.Test.YtpdpggndhmnggaaFlo4d
import Derived.Test.YtpdpggndhmnggaaF8d
import Derived.Test.YtpdpggndhmnggaaF12d
namespace Go.Proofs.Ytpdpggndhmnggaa.M
open Go.RowKit Go.Proofs.YtpdpggndhmnggaaW.PrintWords Go.Proofs.YtpdpggndhmnggaaW.PrintLast Go.Proofs.YtpdpggndhmnggaaW.PrintMore Go.Proofs.Ytpdpggndhmnggaa.F
set_option linter.unusedVariables false
set_option linter.unusedSimpArgs false
theorem two17_l0 (n : Nat) (hn : n ≤ 62) : ∀ (d i : Nat), n - i ≤ d → i ≤ n → Ev (fun k => vernierref17_two.l0 k (n : Int) ((2 ^ i : Nat) : Int) (i : Int)) ((2 ^ n : Nat) : Int) := by
  intro d
  induction d with
  | zero =>
    intro i hd hi
    obtain rfl : i = n := by omega
    refine Ev.step (f := fun k => some ((2 ^ i : Nat) : Int)) (fun k => ?_) (Ev.now _)
    simp only [vernierref17_two.l0]
    rw [if_neg (by omega)]
  | succ d ih =>
    intro i hd hi
    by_cases h : i < n
    · refine Ev.step (f := fun k => vernierref17_two.l0 k (n : Int) ((2 ^ (i + 1) : Nat) : Int) ((i + 1 : Nat) : Int)) (fun k => ?_) (ih (i + 1) (by omega) (by omega))
      simp only [vernierref17_two.l0]
      have hp : 2 ^ i < 2 ^ 62 := Nat.pow_lt_pow_right (by decide) (by omega)
      have e : IntKind.u64.wrap (2 * ((2 ^ i : Nat) : Int)) = ((2 ^ (i + 1) : Nat) : Int) := by
        rw [u64w, Nat.pow_succ]; omega
      rw [if_pos (by omega), e, w64 (by omega) (by omega)]
      rfl
    · exact ih i (by omega) hi
theorem two17_ev {n : Nat} (hn : n ≤ 62) : Ev (fun k => vernierref17_two.f k (n : Int)) ((2 ^ n : Nat) : Int) := two17_l0 n hn n 0 (by omega) (by omega)
theorem Round_exactly {n : Nat} {neg : Bool} {m : Nat} {e : Int} (hn : Wd n) (hm : m < 18446744073709551616) (h0 : -1000000 ≤ e) (h1 : e ≤ 1000000) :
    Ev (fun k => (vernierref07_Exactly.f k neg (digs m) e false).bind fun bt => (vernierref07_Round.f k (n : Int) bt.1 bt.2.1 bt.2.2.1 bt.2.2.2.1 bt.2.2.2.2.1 bt.2.2.2.2.2).bind fun t => some (t, (0 : Int))) (((rdV n neg e m : Nat) : Int), (0 : Int)) := by
  have hx := Exactly_ev (neg := neg) (rest := false) (m := m) (e := e) (by omega) (by omega) (by omega)
  refine Ev.bind hx ?_
  by_cases hz : m = 0
  · rw [if_pos hz]
    have e0 : rdV n neg e m = 0 := by unfold rdV; rw [if_pos hz]
    rw [e0]
    exact Ev.bind (Round07_zero hn) (Ev.now _)
  · rw [if_neg hz]
    have hb := blen_le128 (show m < 340282366920938463463374607431768211456 by omega)
    have hnm := nm_bounds (show 0 < m by omega) (show m < 340282366920938463463374607431768211456 by omega)
    have hr := Round07_made (neg := neg) (rest := false) (sc := e + (blen m : Int) - 1) hn (by omega) (by omega) hnm.1 hnm.2
    have e0 : rdV n neg e m = rdN n neg (e + (blen m : Int) - 1) (nmW m) false := by unfold rdV; rw [if_neg hz]
    rw [e0]
    exact Ev.bind hr (Ev.now _)
def eR (f r : Nat) (low : Int) : Int := if r < f then low else low + ((r / f - 1 : Nat) : Int)
theorem Form_no {a : Int} {x y b : Int} (h : a ≠ 8 ∧ a ≠ 16 ∧ a ≠ 32 ∧ a ≠ 64) : Ev (fun k => vernierref17_Form_From.f k x y a b) (0, 2) := by
  unfold vernierref17_Form_From.f
  rw [Is_no h]
  exact Ev.now _
end Go.Proofs.Ytpdpggndhmnggaa.M

namespace Go.Proofs.Ytpdpggndhmnggaa.M
open Go.RowKit Go.Proofs.YtpdpggndhmnggaaW.PrintWords Go.Proofs.YtpdpggndhmnggaaW.PrintLast Go.Proofs.YtpdpggndhmnggaaW.PrintMore Go.Proofs.Ytpdpggndhmnggaa.F
set_option linter.unusedVariables false
set_option linter.unusedSimpArgs false
theorem From64_no {a : Int} {b : Nat} (hn : NoW a) (hb : b < 18446744073709551616) : Ev (fun k => flt_From64.f k a b) (0, some 2) := by
  have hj : Ev (fun k => flt_From64.j0 k a b false 2 false 0 0 0 false) (0, some 2) := by
    refine Ev.step (f := fun k => (round_Round.f k a 2 false 0 0 0 false).bind fun bt => some (bt.1, bt.2)) (fun k => ?_) (Ev.bind (Round_no hn) (Ev.now _))
    simp only [flt_From64.j0]
    rw [if_neg (by decide)]
  unfold flt_From64.f
  by_cases c : 9218868437227405312 < b % 9223372036854775808
  · refine Ev.bindp (IsNaN_eq b) ?_
    rw [decide_eq_true c]
    exact Ev.congr (fun k => if_pos rfl) hj
  · have hN : math_IsNaN.f b = some false := by rw [IsNaN_eq, decide_eq_false c]
    refine Ev.bindp hN (Ev.congr (fun k => if_neg (by decide)) (Ev.bindp (IsInf_eq hb) ?_))
    by_cases c2 : b % 9223372036854775808 = 9218868437227405312
    · rw [decide_eq_true c2]; exact hj
    · rw [decide_eq_false c2]
      have h : b % 9223372036854775808 < 9218868437227405312 := by omega
      refine Ev.step (fun k => by simp only [flt_From64.j0]; rw [if_pos (by rfl)]) (Ev.bindp (Abs_eq hb) ?_)
      generalize hr : b % 9223372036854775808 = r at *
      generalize (FloatKind.f64.format.order b 0 == some .lt) = neg
      have fin : ∀ M : Nat, M < 18446744073709551616 → ∀ P : Int, -1000000 ≤ P → P ≤ 1000000 → Ev (fun k => (round_Make.f k neg 0 (M : Int) P false).bind fun bt239 => if bt239.2.2.2.2.2.2.isNone = true then (round_Round.f k a bt239.1 bt239.2.1 bt239.2.2.1 bt239.2.2.2.1 bt239.2.2.2.2.1 bt239.2.2.2.2.2.1).bind fun bt248 => some (bt248.1, bt248.2) else some (0, some (bt239.2.2.2.2.2.2.getD 0))) (0, some 2) := by
        intro M hM P p0 p1
        refine Ev.bind (Make_ev (neg := neg) (rest := false) (h := 0) (l := M) (e := P) (by decide) hM (by omega) (by omega) (fun h => by cases h)) ?_
        split
        · exact Ev.congr (fun k => if_pos rfl) (Ev.bind (Round_no hn) (Ev.now _))
        · exact Ev.congr (fun k => if_pos rfl) (Ev.bind (Round_no hn) (Ev.now _))
      by_cases c0 : r = 0
      · subst c0
        have f0 : Ev (fun k => math_Frexp.f k 0) (0, 0) := by
          unfold math_Frexp.f math_frexp.f
          refine Ev.bind (a := (0, 0)) ?_ (Ev.now _)
          exact Ev.congr (fun k => if_pos (by rw [ord_zero (by omega)]; rfl)) (Ev.now _)
        have l0 : math_Ldexp.f 0 53 = some 0 := by
          unfold math_Ldexp.f
          refine obind (a := 0) ?_ rfl
          unfold math_ldexp.f
          exact if_pos (by rw [ord_zero (by omega)]; rfl)
        have i0 : floatToIntVal .f64 0 .u64 = some 0 := by decide
        refine Ev.bind f0 (Ev.bindp l0 ?_)
        rw [i0]
        refine Ev.congr (fun k => if_pos rfl) ?_
        rw [show wrap64 (0 - 53) = -53 from w64 (by decide) (by decide)]
        exact fin 0 (by decide) (-53) (by decide) (by decide)
      · obtain ⟨b1, b2, b3, b4⟩ := mD_bounds (r := r) (by omega) h
        refine Ev.bind (Frexp_ev (by omega) h) (Ev.bindp (Ldexp_frac b1 b2) ?_)
        rw [toInt_eq b1 b2]
        refine Ev.congr (fun k => if_pos rfl) ?_
        have hw : wrap64 (pD r + 53 - 53) = pD r := by rw [show pD r + 53 - 53 = pD r by omega]; exact w64 (by omega) (by omega)
        simp only [hw, Option.getD_some]
        exact fin (mD r) (by omega) (pD r) (by omega) (by omega)
end Go.Proofs.Ytpdpggndhmnggaa.M
