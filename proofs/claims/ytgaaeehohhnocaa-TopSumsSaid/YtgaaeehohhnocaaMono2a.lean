/- Patterns' strings: the string of a pattern's number is the pattern, noughts .. -/
import Derived.Test.YtgaaeehohhnocaaMonoa
import Derived.Test.YtgaaeehohhnocaaF6a
import Derived.Test.YtgaaeehohhnocaaOrd2a
import Derived.Test.YtgaaeehohhnocaaCod5a
namespace Go.Proofs.Ytgaaeehohhnocaa.M
set_option linter.unusedVariables false
set_option linter.unusedSimpArgs false
theorem sc_ends {n x : Nat} (hn : Wd n) (hx : 0 < x % 2 ^ (n - 1)) : -((4 * n - 8 : Nat) : Int) ≤ scI x (n - 1) ∧ scI x (n - 1) ≤ ((4 * n - 8 : Nat) : Int) := by
 have g1 := hn.ge
 have g2 := hn.le
 have hw : 0 < n - 1 := by omega
 have hr := runN_le x (n - 1)
 have hr0 := runN_pos (x := x) hw
 have he := exN_lt x (n - 1)
 have hlf : lfN x (n - 1) = n - 1 - runN x (n - 1) - 1 := rfl
 have hb := base_split (x := x) hw
 have hex : exN x (n - 1) ≤ 3 := by omega
 have h0 : n - 1 ≤ runN x (n - 1) + 1 → exN x (n - 1) = 0 := by
  intro hh
  have e : lfN x (n - 1) = 0 := by omega
  have e2 : ebN x (n - 1) = 0 := by unfold ebN; omega
  have e3 := eN_lt x (n - 1)
  rw [e2, Nat.pow_zero] at e3
  unfold exN
  rw [show eN x (n - 1) = 0 by omega, Nat.zero_mul]
 unfold scI rgI
 by_cases t : topB x (n - 1) = true
 ·
  rw [if_pos t]
  by_cases c : n - 1 ≤ runN x (n - 1) + 1
  ·
   have := h0 c; omega
  ·
   omega
 ·
  rw [if_neg t]
  have hnr : runN x (n - 1) < n - 1 := by
   rcases Nat.lt_or_ge (runN x (n - 1)) (n - 1) with c | c
   ·
    exact c
   ·
    exfalso
    have e : lfN x (n - 1) = 0 := by omega
    have hm : x % 2 ^ lfN x (n - 1) = 0 := by rw [e, Nat.pow_zero, Nat.mod_one]
    have hb0 : baseN x (n - 1) = 0 := by unfold baseN; rw [if_neg t, if_neg (by omega)]
    rw [hb0, hm] at hb
    omega
  omega
end Go.Proofs.Ytgaaeehohhnocaa.M
