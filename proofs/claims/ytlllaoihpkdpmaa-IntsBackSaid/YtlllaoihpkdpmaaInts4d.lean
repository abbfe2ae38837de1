/- Whole numbers' patterns: what is more is rounded to no less, the other sign to the other pattern; one width out of a raw number. -/
import Derived.Test.YtlllaoihpkdpmaaF11d
import Derived.Test.YtlllaoihpkdpmaaF0d
import Derived.Test.YtlllaoihpkdpmaaF7d
import Derived.Test.YtlllaoihpkdpmaaInts3d
import Derived.Test.YtlllaoihpkdpmaaMono2d
import Derived.Test.YtlllaoihpkdpmaaF10d
import Derived.Test.YtlllaoihpkdpmaaF8d
import Derived.Test.YtlllaoihpkdpmaaCodd
import Derived.Test.YtlllaoihpkdpmaaCod3d
namespace Go.Proofs.Ytlllaoihpkdpmaa.M
open Go.RowKit Go.Proofs.YtlllaoihpkdpmaaW.PrintWords Go.Proofs.YtlllaoihpkdpmaaW.PrintLast Go.Proofs.YtlllaoihpkdpmaaW.PrintMore Go.Proofs.Ytlllaoihpkdpmaa.F
set_option linter.unusedVariables false
set_option linter.unusedSimpArgs false
/-- The size that a natural number is rounded to. -/
def rdS (n v : Nat) : Nat := if v = 0 then 0 else rdP n ((blen v : Int) - 1) (nmW v) false
theorem rdV_S {n : Nat} (hn : Wd n) (neg : Bool) (v : Nat) : rdV n neg 0 v = signN n neg (rdS n v) := by
  unfold rdV rdS rdN
  by_cases h : v = 0
  · rw [if_pos h, if_pos h]
    unfold signN
    rcases hn with rfl | rfl | rfl | rfl <;> cases neg <;> rfl
  · rw [if_neg h, if_neg h, Int.zero_add]
theorem nm_low {v : Nat} (h0 : 0 < v) (h : v < 340282366920938463463374607431768211456) : nmW v % 2 ^ 127 + 170141183460469231731687303715884105728 = nmW v := by
  obtain ⟨a, b⟩ := nm_bounds h0 h
  rw [show (2 : Nat) ^ 127 = 170141183460469231731687303715884105728 by decide]
  omega
theorem sign_word {n q : Nat} (hn : Wd n) (neg : Bool) (hq : q ≤ 2 ^ (n - 1) - 1) : signN n neg q < 18446744073709551616 := by
  have := half_lt hn
  exact sign_lt hn neg (by omega)
theorem pick_ev (a : Int) (h0 : -9223372036854775808 ≤ a) (h1 : a < 9223372036854775808) : ∃ i : Nat, i < 4 ∧ vernierlaw16_pick.f a 4 = some (i : Int) := by
  unfold vernierlaw16_pick.f
  by_cases h : a < 0
  · rw [if_pos h, if_neg (by decide), w64 (x := a + 1) (by omega) (by omega), w64 (by omega) (by omega), tmod_nn (by omega)]
    exact ⟨(-(a + 1) % 4).toNat, by omega, by congr 1; omega⟩
  · rw [if_neg h, if_neg (by decide), tmod_nn (by omega)]
    exact ⟨(a % 4).toNat, by omega, by congr 1; omega⟩
theorem width_l0 : ∀ i j : Nat, i + j < 4 → Ev (fun k => vernierlaw16_width.l0 k ((8 * 2 ^ j : Nat) : Int) (i : Int)) ((8 * 2 ^ (j + i) : Nat) : Int) := by
  intro i
  induction i with
  | zero =>
    intro j h
    refine Ev.step (f := fun _ => some ((8 * 2 ^ j : Nat) : Int)) (fun k => ?_) (Ev.now _)
    simp only [vernierlaw16_width.l0]; rw [if_neg (by omega)]
  | succ i ih =>
    intro j h
    have hj := ih (j + 1) (by omega)
    rw [show j + 1 + i = j + (i + 1) by omega] at hj
    refine Ev.step (fun k => ?_) hj
    simp only [vernierlaw16_width.l0]
    have hp : 2 ^ j ≤ 2 ^ 3 := Nat.pow_le_pow_right (by decide) (by omega)
    have e : 2 ^ (j + 1) = 2 * 2 ^ j := Nat.pow_succ' ..
    rw [if_pos (by omega), w64 (by omega) (by omega), w64 (by omega) (by omega), show 2 * ((8 * 2 ^ j : Nat) : Int) = ((8 * 2 ^ (j + 1) : Nat) : Int) by omega, show ((i + 1 : Nat) : Int) - 1 = (i : Int) by omega]
theorem width_ev (a : Int) (h0 : -9223372036854775808 ≤ a) (h1 : a < 9223372036854775808) : ∃ n : Nat, Wd n ∧ Ev (fun k => vernierlaw16_width.f k a) (n : Int) := by
  obtain ⟨i, hi, he⟩ := pick_ev a h0 h1
  refine ⟨8 * 2 ^ (0 + i), ?_, ?_⟩
  · have : i = 0 ∨ i = 1 ∨ i = 2 ∨ i = 3 := by omega
    rcases this with rfl | rfl | rfl | rfl <;> unfold Wd <;> decide
  · unfold vernierlaw16_width.f
    exact Ev.bindp he (width_l0 i 0 (by omega))
end Go.Proofs.Ytlllaoihpkdpmaa.M
