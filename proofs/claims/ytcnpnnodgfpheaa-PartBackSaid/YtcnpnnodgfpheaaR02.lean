/- What the reference of the second layer computes, at numbers of 128 bits. -/
import Derived.Test.YtcnpnnodgfpheaaF7
import Derived.Test.YtcnpnnodgfpheaaR00b
namespace Go.Proofs.Ytcnpnnodgfpheaa.M
open Go.RowKit Go.Proofs.YtcnpnnodgfpheaaW.PrintWords Go.Proofs.YtcnpnnodgfpheaaW.PrintLast Go.Proofs.YtcnpnnodgfpheaaW.PrintMore Go.Proofs.Ytcnpnnodgfpheaa.F
set_option linter.unusedVariables false
set_option linter.unusedSimpArgs false

/-- The upper and the lower word of a number. -/
def hi (s : Nat) : Int := ((s / 18446744073709551616 % 18446744073709551616 : Nat) : Int)
def lo (s : Nat) : Int := ((s % 18446744073709551616 : Nat) : Int)
/-- The number that two words are. -/
def tw (h l : Nat) : Nat := h * 18446744073709551616 + l
theorem tw_lt {h l : Nat} (hh : h < 18446744073709551616) (hl : l < 18446744073709551616) : tw h l < 340282366920938463463374607431768211456 := by unfold tw; omega
theorem hi_tw {h l : Nat} (hh : h < 18446744073709551616) (hl : l < 18446744073709551616) : hi (tw h l) = (h : Int) := by unfold hi tw; congr 1; omega
theorem lo_tw {h l : Nat} (hl : l < 18446744073709551616) : lo (tw h l) = (l : Int) := by unfold lo tw; congr 1; omega
theorem tw_eq {s : Nat} (h : s < 340282366920938463463374607431768211456) : tw (s / 18446744073709551616 % 18446744073709551616) (s % 18446744073709551616) = s := by unfold tw; omega
theorem p64 : (2 : Nat) ^ 64 = 18446744073709551616 := by decide
theorem p128 : (2 : Nat) ^ 128 = 340282366920938463463374607431768211456 := by decide
theorem len_le {x n : Nat} (h : x < 16777216 ^ n) (m : Nat) (hm : n < m) : (digs x).length < m := Nat.lt_of_le_of_lt (digs_length_le h) hm

theorem Of02_ev {h l : Nat} (hh : h < 18446744073709551616) (hl : l < 18446744073709551616) : Ev (fun k => vernierref02_Of.f k (h : Int) (l : Int)) (digs (tw h l)) := by
  unfold vernierref02_Of.f
  have l1 := len_le (x := h) (n := 3) (by omega) 100000000 (by decide)
  refine Ev.bind (Of_ev hh) (Ev.bind (Shl_ev (k := 64) l1 (by decide)) (Ev.bind (Of_ev hl) (Ev.bind (Add_ev ?_ ?_) ?_)))
  · rw [p64]; exact len_le (n := 6) (by omega) _ (by decide)
  · exact len_le (n := 3) (by omega) _ (by decide)
  · rw [p64]; exact Ev.now _
theorem Told_ev {s : Nat} (hs : (digs s).length < 100000000) : Ev (fun k => vernierref02_Told.f k (digs s)) (hi s, lo s) := by
  unfold vernierref02_Told.f
  refine Ev.bind (Shr_ev (k := 64) hs (by decide)) (Ev.bind (Word_ev _) (Ev.bind (Word_ev _) ?_))
  rw [p64]; exact Ev.now _
theorem one_digs : ([1] : List Int) = digs 1 := by rw [digs_pos 1 (by decide)]; rfl
theorem cmp_ge (x y : Nat) : decide (cmp x y ≥ 0) = decide (y ≤ x) := by unfold cmp; split <;> (try split) <;> simp <;> omega
theorem cmp_lt (x y : Nat) : decide (cmp x y < 0) = decide (x < y) := by unfold cmp; split <;> (try split) <;> simp <;> omega
theorem cmp_le (x y : Nat) : decide (cmp x y ≤ 0) = decide (x ≤ y) := by unfold cmp; split <;> (try split) <;> simp <;> omega
theorem blen128 {ah al : Nat} (h0 : ah < 18446744073709551616) (h1 : al < 18446744073709551616) : blen (tw ah al) ≤ 128 := by
  have ha := tw_lt h0 h1
  rw [← p128] at ha
  rcases Nat.eq_zero_or_pos (tw ah al) with h | h
  · rw [h]; decide
  · have := blen_le h
    rcases Nat.lt_or_ge 128 (blen (tw ah al)) with h6 | h6
    · have : 2 ^ 128 ≤ 2 ^ (blen (tw ah al) - 1) := Nat.pow_le_pow_right (by decide) (by omega)
      omega
    · exact h6
end Go.Proofs.Ytcnpnnodgfpheaa.M
