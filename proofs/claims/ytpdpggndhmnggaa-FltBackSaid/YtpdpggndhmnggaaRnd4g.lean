/- The seventh layer: a number out of two words and a scale, made ready to be rounded: program and reference alike. -/
import Derived.Test.YtpdpggndhmnggaaF7g
import Derived.Test.YtpdpggndhmnggaaF17g
import Derived.Test.YtpdpggndhmnggaaF18g
import Derived.Test.YtpdpggndhmnggaaRnd3g
import Derived.Test.YtpdpggndhmnggaaR02g
namespace Go.Proofs.Ytpdpggndhmnggaa.M
open Go.RowKit Go.Proofs.YtpdpggndhmnggaaW.PrintWords Go.Proofs.YtpdpggndhmnggaaW.PrintLast Go.Proofs.YtpdpggndhmnggaaW.PrintMore Go.Proofs.Ytpdpggndhmnggaa.F
set_option linter.unusedVariables false
set_option linter.unusedSimpArgs false
/-- A number, shifted to the top of 128 bits. -/
def nmW (v : Nat) : Nat := v * 2 ^ (128 - blen v)
theorem blen_le128 {v : Nat} (h : v < 340282366920938463463374607431768211456) : blen v ≤ 128 := blen_le_of (by rw [p128]; exact h)
theorem nm_bounds {v : Nat} (h0 : 0 < v) (h : v < 340282366920938463463374607431768211456) : 170141183460469231731687303715884105728 ≤ nmW v ∧ nmW v < 340282366920938463463374607431768211456 := by
  have h1 := blen_le h0
  have h2 := lt_blen v
  have h3 := blen_pos h0
  have h4 := blen_le128 h
  have hp : 0 < 2 ^ (128 - blen v) := Nat.pow_pos (by decide)
  unfold nmW
  constructor
  · rw [show (170141183460469231731687303715884105728 : Nat) = 2 ^ (blen v - 1) * 2 ^ (128 - blen v) by rw [← Nat.pow_add, show blen v - 1 + (128 - blen v) = 127 by omega]]
    exact Nat.mul_le_mul_right _ h1
  · rw [show (340282366920938463463374607431768211456 : Nat) = 2 ^ blen v * 2 ^ (128 - blen v) by rw [← Nat.pow_add, show blen v + (128 - blen v) = 128 by omega]]
    exact (Nat.mul_lt_mul_right hp).mpr h2
theorem held_in {a : Int} (h0 : -1099511627776 ≤ a) (h1 : a ≤ 1099511627776) : round_held.f a = some a := by rw [held_eq, if_neg (by omega), if_neg (by omega)]
theorem hi_top {s : Nat} (h0 : 170141183460469231731687303715884105728 ≤ s) (h1 : s < 340282366920938463463374607431768211456) : 9223372036854775808 ≤ s / 18446744073709551616 % 18446744073709551616 := by omega
theorem Make_ev {neg rest : Bool} {h l : Nat} {e : Int} (hh : h < 18446744073709551616) (hl : l < 18446744073709551616) (h0 : -549755813888 ≤ e) (h1 : e ≤ 549755813888) (hr : rest = true → 9223372036854775808 ≤ h) :
    Ev (fun k => round_Make.f k neg (h : Int) (l : Int) e rest) (if tw h l = 0 then (0, false, 0, 0, 0, false, none) else (1, neg, e + (blen (tw h l) : Int) - 1, hi (nmW (tw h l)), lo (nmW (tw h l)), rest, none)) := by
  have hb := blen128 hh hl
  have hN := Norm_eq hh hl
  have hj : Ev (fun k => round_Make.j0 k neg (h : Int) (l : Int) e rest false) (if tw h l = 0 then (0, false, 0, 0, 0, false, none) else (1, neg, e + (blen (tw h l) : Int) - 1, hi (nmW (tw h l)), lo (nmW (tw h l)), rest, none)) := by
    refine Ev.step (fun k => by simp only [round_Make.j0]; rw [if_neg (by decide)]) (Ev.bind hN ?_)
    by_cases hz : tw h l = 0
    · rw [if_pos hz, if_pos hz]
      exact Ev.congr (fun k => if_pos (by rfl)) (Ev.now _)
    · rw [if_neg hz, if_neg hz]
      have hnm := nm_bounds (v := tw h l) (by omega) (tw_lt hh hl)
      have hne : ¬ ((hi (nmW (tw h l)) == 0 && (lo (nmW (tw h l)) == 0)) = true) := by
        rw [Bool.and_eq_true, beq_iff_eq, beq_iff_eq]
        unfold hi lo
        omega
      refine Ev.congr (fun k => if_neg hne) ?_
      have e1 : wrap64 (mx (-4398046511104) (mn e 4398046511104) + 127 - ((128 - blen (tw h l) : Nat) : Int)) = e + (blen (tw h l) : Int) - 1 := by
        have : mx (-4398046511104) (mn e 4398046511104) = e := by unfold mx mn; split <;> split <;> omega
        rw [this, w64 (by omega) (by omega)]; omega
      refine Ev.bindp (a := e + (blen (tw h l) : Int) - 1) ?_ (Ev.now _)
      rw [e1]
      exact held_in (by omega) (by omega)
  unfold round_Make.f
  cases rest
  · exact Ev.congr (fun k => if_neg (by decide)) hj
  · refine Ev.congr (fun k => if_pos rfl) ?_
    have hb2 : (((h : Int) / 9223372036854775808) == 0) = false := by rw [beq_eq_false_iff_ne]; have := hr rfl; omega
    rw [hb2]; exact hj
theorem Round_made {n : Nat} {neg rest : Bool} {sc : Int} {s : Nat} (hn : Wd n) (h0 : -1099511627776 ≤ sc) (h1 : sc ≤ 1099511627776) (hs0 : 170141183460469231731687303715884105728 ≤ s) (hs1 : s < 340282366920938463463374607431768211456) :
    Ev (fun k => round_Round.f k (n : Int) 1 neg sc (hi s) (lo s) rest) (((rdN n neg sc s rest : Nat) : Int), none) := by
  have := Round_real (neg := neg) (rest := rest) hn h0 h1 (hi_top hs0 hs1) (show s / 18446744073709551616 % 18446744073709551616 < 18446744073709551616 by omega) (show s % 18446744073709551616 < 18446744073709551616 by omega)
  rw [tw_eq hs1] at this
  exact this
/-- v times 2^e, rounded. -/
def rdV (n : Nat) (neg : Bool) (e : Int) (v : Nat) : Nat := if v = 0 then 0 else rdN n neg (e + (blen v : Int) - 1) (nmW v) false
end Go.Proofs.Ytpdpggndhmnggaa.M
