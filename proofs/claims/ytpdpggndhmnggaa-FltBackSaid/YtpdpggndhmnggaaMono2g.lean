/- Patterns' strings: the string of a pattern's number is the pattern, noughts behind; a pattern's number is rounded to it; a number whose string ends within a pattern is that pattern's. -/
import Derived.Test.YtpdpggndhmnggaaMonog
import Derived.Test.YtpdpggndhmnggaaF13g
import Derived.Test.YtpdpggndhmnggaaF11g
import Derived.Test.YtpdpggndhmnggaaCodg
import Derived.Test.YtpdpggndhmnggaaCod6g
namespace Go.Proofs.Ytpdpggndhmnggaa.M
set_option linter.unusedVariables false
set_option linter.unusedSimpArgs false
/-- The mantissa of a pattern's size, at the top of 128 bits. -/
def mxN (x w : Nat) : Nat := mtN x w * 18446744073709551616
theorem mx_low {x w : Nat} (hw : 0 < w) (h : w ≤ 63) : mxN x w % 2 ^ 127 = tlN x w % 2 ^ 64 / 2 * 2 ^ 64 := by
  have h1 := mtN_lt (x := x) hw h
  have h2 := mt_tail (x := x) hw h
  unfold mxN mtN
  rw [← h2]
  rw [show (2 : Nat) ^ 127 = 9223372036854775808 * 18446744073709551616 by decide, Nat.mul_mod_mul_right, Nat.add_mod_left, Nat.mod_eq_of_lt h1, p64']
theorem pat_string {x w : Nat} (hw : 0 < w) (h : w ≤ 63) (hx : 0 < x % 2 ^ w) : hsN (scI x w) * 2 ^ 127 + mxN x w % 2 ^ 127 = x % 2 ^ w * 2 ^ (runN x w + 130 - w) := by
  obtain ⟨d1, d2, d3, d4⟩ := scale_div (x := x) hw
  have ht := ex_tail (x := x) hw h
  have hr := runN_le x w
  have hr0 := runN_pos (x := x) hw
  have hb := base_split (x := x) hw
  have hlf : lfN x w = w - runN x w - 1 := rfl
  have htl : tlN x w % 2 = 0 := by
    unfold tlN
    rw [show 66 - lfN x w = (65 - lfN x w) + 1 by omega, Nat.pow_succ, ← Nat.mul_assoc]
    exact Nat.mul_mod_left _ _
  have e1 : hsN (scI x w) * 2 ^ 127 + mxN x w % 2 ^ 127 = hdN (topB x w) (runN x w) * 2 ^ 129 + tlN x w / 2 * 2 ^ 64 := by
    rw [mx_low hw h]
    unfold hsN
    rw [d4, d3, d2, Int.toNat_natCast, ht]
    rw [p64', show (2 : Nat) ^ 127 = 9223372036854775808 * 18446744073709551616 by decide, show (2 : Nat) ^ 129 = 4 * 9223372036854775808 * 18446744073709551616 by decide]
    generalize tlN x w = t at *
    generalize hdN (topB x w) (runN x w) = a
    omega
  have e2 : tlN x w / 2 = x % 2 ^ lfN x w * 2 ^ (65 - lfN x w) := by
    unfold tlN
    rw [show 66 - lfN x w = (65 - lfN x w) + 1 by omega, Nat.pow_succ, ← Nat.mul_assoc, Nat.mul_div_cancel _ (by decide)]
  rw [e1, e2, hb]
  by_cases hrw : runN x w < w
  · have e3 : baseN x w = hdN (topB x w) (runN x w) * 2 ^ lfN x w := by
      unfold baseN hdN
      by_cases t : topB x w = true
      · rw [if_pos t, if_pos t, show w - runN x w = lfN x w + 1 by omega, Nat.pow_succ]
        grind
      · rw [if_neg t, if_neg t, if_pos hrw, Nat.one_mul]
        congr 1
        omega
    have e4 : 2 ^ (runN x w + 130 - w) = 2 ^ (65 - lfN x w) * 2 ^ 64 := by rw [← Nat.pow_add, show 65 - lfN x w + 64 = runN x w + 130 - w by omega]
    have e5 : 2 ^ lfN x w * (2 ^ (65 - lfN x w) * 2 ^ 64) = 2 ^ 129 := by rw [← Nat.pow_add, ← Nat.pow_add, show lfN x w + (65 - lfN x w + 64) = 129 by omega]
    rw [e3, e4, Nat.add_mul, Nat.mul_assoc (hdN _ _), e5, Nat.mul_assoc]
  · have er : runN x w = w := by omega
    have hl0 : lfN x w = 0 := by omega
    have e3 : baseN x w * 2 = hdN (topB x w) (runN x w) := by
      unfold baseN hdN
      by_cases t : topB x w = true
      · rw [if_pos t, if_pos t, er, Nat.sub_self, Nat.pow_zero, Nat.mul_one]
      · exfalso
        have hm : x % 2 ^ lfN x w = 0 := by rw [hl0, Nat.pow_zero, Nat.mod_one]
        have hb0 : baseN x w = 0 := by unfold baseN; rw [if_neg t, if_neg hrw]
        rw [hb0, hm] at hb
        omega
    simp only [hl0, Nat.pow_zero, Nat.mod_one, Nat.zero_mul, Nat.add_zero]
    rw [← e3, er, show w + 130 - w = 130 by omega, Nat.mul_assoc]
theorem sc_ends {n x : Nat} (hn : Wd n) (hx : 0 < x % 2 ^ (n - 1)) : -((4 * n - 8 : Nat) : Int) ≤ scI x (n - 1) ∧ scI x (n - 1) ≤ ((4 * n - 8 : Nat) : Int) := by
  have g1 := hn.ge
  have g2 := hn.le
  have hw : 0 < n - 1 := by omega
  have hr := runN_le x (n - 1)
  have hr0 := runN_pos (x := x) hw
  have he := exN_lt x (n - 1)
  have hlf : lfN x (n - 1) = n - 1 - runN x (n - 1) - 1 := rfl
  have hb := base_split (x := x) hw
  have hex : exN x (n - 1) ≤ 3 := by omega
  -- a run of all bits but one leaves no exponent
  have h0 : n - 1 ≤ runN x (n - 1) + 1 → exN x (n - 1) = 0 := by
    intro hh
    have e : lfN x (n - 1) = 0 := by omega
    have e2 : ebN x (n - 1) = 0 := by unfold ebN; omega
    have e3 := eN_lt x (n - 1)
    rw [e2, Nat.pow_zero] at e3
    unfold exN
    rw [show eN x (n - 1) = 0 by omega, Nat.zero_mul]
  unfold scI rgI
  by_cases t : topB x (n - 1) = true
  · rw [if_pos t]
    by_cases c : n - 1 ≤ runN x (n - 1) + 1
    · have := h0 c; omega
    · omega
  · rw [if_neg t]
    have hnr : runN x (n - 1) < n - 1 := by
      rcases Nat.lt_or_ge (runN x (n - 1)) (n - 1) with c | c
      · exact c
      · exfalso
        have e : lfN x (n - 1) = 0 := by omega
        have hm : x % 2 ^ lfN x (n - 1) = 0 := by rw [e, Nat.pow_zero, Nat.mod_one]
        have hb0 : baseN x (n - 1) = 0 := by unfold baseN; rw [if_neg t, if_neg (by omega)]
        rw [hb0, hm] at hb
        omega
    omega
/-- The string of a pattern's number is the pattern, noughts behind. -/
theorem pat_y {n x : Nat} (hn : Wd n) (hx : 0 < x % 2 ^ (n - 1)) : yN (scI x (n - 1)) (mxN x (n - 1)) = x % 2 ^ (n - 1) * 2 ^ (257 - n) := by
  have g1 := hn.ge
  have g2 := hn.le
  have hw : 0 < n - 1 := by omega
  obtain ⟨s0, s1⟩ := sc_ends hn hx
  obtain ⟨d1, d2, d3, d4⟩ := scale_div (x := x) hw
  have hr := runN_le x (n - 1)
  have hs := run_small (sc := scI x (n - 1)) (by omega) (by omega)
  have hp := pat_string hw (by omega) hx
  unfold yN stX stL
  rw [d3] at hs
  rw [hp, d3, Nat.mul_assoc, ← Nat.pow_add, show runN x (n - 1) + 130 - (n - 1) + (256 - (runN x (n - 1) + 130)) = 257 - n by omega]
/-- A pattern's number is rounded to the pattern. -/
theorem pat_round {n x : Nat} (hn : Wd n) (hx : 0 < x % 2 ^ (n - 1)) : rdP n (scI x (n - 1)) (mxN x (n - 1)) false = x % 2 ^ (n - 1) := by
  have g1 := hn.ge
  have g2 := hn.le
  have hp : 0 < 2 ^ (257 - n) := Nat.pow_pos (by decide)
  obtain ⟨s0, s1⟩ := sc_ends hn hx
  have hy := pat_y hn hx
  rcases Int.lt_or_eq_of_le s1 with c | c
  · rw [rdP_mid hn s0 c, hy, rh_exact hn]
  · rw [rdP_high hn (by omega)]
    have h1 := y_most hn
    have h2 := y_ge_top (sc := ((4 * n - 8 : Nat) : Int)) (mxN x (n - 1)) (by omega) (by omega)
    rw [c] at hy
    rw [hy, h1] at h2
    have h3 := Nat.le_of_mul_le_mul_right h2 hp
    have h4 : x % 2 ^ (n - 1) < 2 ^ (n - 1) := Nat.mod_lt _ (Nat.pow_pos (by decide))
    omega
/-- A number whose string is a pattern, noughts behind, is the pattern's. -/
theorem y_pat {n x : Nat} {sc : Int} {m : Nat} (hn : Wd n) (hx : 0 < x % 2 ^ (n - 1)) (h0 : -248 ≤ sc) (h1 : sc ≤ 248) (h : yN sc m = x % 2 ^ (n - 1) * 2 ^ (257 - n)) : scI x (n - 1) = sc ∧ mxN x (n - 1) % 2 ^ 127 = m % 2 ^ 127 := by
  have g1 := hn.ge
  have g2 := hn.le
  obtain ⟨s0, s1⟩ := sc_ends hn hx
  exact y_inj (by omega) (by omega) h0 h1 (by rw [pat_y hn hx, h])
end Go.Proofs.Ytpdpggndhmnggaa.M
