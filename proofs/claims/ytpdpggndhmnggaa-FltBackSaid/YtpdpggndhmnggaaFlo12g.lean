/- What floats are rounded to, by signs and sizes; one width out of a raw number. -/
import Derived.Test.YtpdpggndhmnggaaF14g
import Derived.Test.YtpdpggndhmnggaaF0g
import Derived.Test.YtpdpggndhmnggaaF10g
import Derived.Test.YtpdpggndhmnggaaFlo11g
import Derived.Test.YtpdpggndhmnggaaMono2g
import Derived.Test.YtpdpggndhmnggaaF13g
import Derived.Test.YtpdpggndhmnggaaF11g
import Derived.Test.YtpdpggndhmnggaaCodg
import Derived.Test.YtpdpggndhmnggaaCod6g
namespace Go.Proofs.Ytpdpggndhmnggaa.M
open Go.RowKit Go.Proofs.YtpdpggndhmnggaaW.PrintWords Go.Proofs.YtpdpggndhmnggaaW.PrintLast Go.Proofs.YtpdpggndhmnggaaW.PrintMore Go.Proofs.Ytpdpggndhmnggaa.F
set_option linter.unusedVariables false
set_option linter.unusedSimpArgs false
theorem sign_word {n q : Nat} (hn : Wd n) (neg : Bool) (hq : q ≤ 2 ^ (n - 1) - 1) : signN n neg q < 18446744073709551616 := by
  have := half_lt hn
  exact sign_lt hn neg (by omega)
theorem pick_ev (a : Int) (h0 : -9223372036854775808 ≤ a) (h1 : a < 9223372036854775808) : ∃ i : Nat, i < 4 ∧ vernierlaw17_pick.f a 4 = some (i : Int) := by
  unfold vernierlaw17_pick.f
  by_cases h : a < 0
  · rw [if_pos h, if_neg (by decide), w64 (x := a + 1) (by omega) (by omega), w64 (by omega) (by omega), tmod_nn (by omega)]
    exact ⟨(-(a + 1) % 4).toNat, by omega, by congr 1; omega⟩
  · rw [if_neg h, if_neg (by decide), tmod_nn (by omega)]
    exact ⟨(a % 4).toNat, by omega, by congr 1; omega⟩
theorem width_l0 : ∀ i j : Nat, i + j < 4 → Ev (fun k => vernierlaw17_width.l0 k ((8 * 2 ^ j : Nat) : Int) (i : Int)) ((8 * 2 ^ (j + i) : Nat) : Int) := by
  intro i
  induction i with
  | zero =>
    intro j h
    refine Ev.step (f := fun _ => some ((8 * 2 ^ j : Nat) : Int)) (fun k => ?_) (Ev.now _)
    simp only [vernierlaw17_width.l0]; rw [if_neg (by omega)]
  | succ i ih =>
    intro j h
    have hj := ih (j + 1) (by omega)
    rw [show j + 1 + i = j + (i + 1) by omega] at hj
    refine Ev.step (fun k => ?_) hj
    simp only [vernierlaw17_width.l0]
    have hp : 2 ^ j ≤ 2 ^ 3 := Nat.pow_le_pow_right (by decide) (by omega)
    have e : 2 ^ (j + 1) = 2 * 2 ^ j := Nat.pow_succ' ..
    rw [if_pos (by omega), w64 (by omega) (by omega), w64 (by omega) (by omega), show 2 * ((8 * 2 ^ j : Nat) : Int) = ((8 * 2 ^ (j + 1) : Nat) : Int) by omega, show ((i + 1 : Nat) : Int) - 1 = (i : Int) by omega]
theorem width_ev (a : Int) (h0 : -9223372036854775808 ≤ a) (h1 : a < 9223372036854775808) : ∃ n : Nat, Wd n ∧ Ev (fun k => vernierlaw17_width.f k a) (n : Int) := by
  obtain ⟨i, hi, he⟩ := pick_ev a h0 h1
  refine ⟨8 * 2 ^ (0 + i), ?_, ?_⟩
  · have : i = 0 ∨ i = 1 ∨ i = 2 ∨ i = 3 := by omega
    rcases this with rfl | rfl | rfl | rfl <;> unfold Wd <;> decide
  · unfold vernierlaw17_width.f
    exact Ev.bindp he (width_l0 i 0 (by omega))
/-- The size that a number of 53 digits is rounded to. -/
def rd53 (n : Nat) (P : Int) (M : Nat) : Nat := rdP n (P + 52) (M * 2 ^ 75) false
theorem blen53 {M : Nat} (h1 : 4503599627370496 ≤ M) (h2 : M < 9007199254740992) : blen M = 53 := blen_unique h2 (.inr h1)
theorem nm53 {M : Nat} (h1 : 4503599627370496 ≤ M) (h2 : M < 9007199254740992) : nmW M = M * 2 ^ 75 := by unfold nmW; rw [blen53 h1 h2]
theorem rdV_53 {n M : Nat} {neg : Bool} {P : Int} (h1 : 4503599627370496 ≤ M) (h2 : M < 9007199254740992) : rdV n neg P M = signN n neg (rd53 n P M) := by
  unfold rdV rdN rd53
  rw [if_neg (by omega), nm53 h1 h2, blen53 h1 h2, show P + ((53 : Nat) : Int) - 1 = P + 52 by omega]
/-- The size that a float without sign is rounded to. -/
def szF (n r : Nat) : Nat := if r = 0 then 0 else rd53 n (pD r) (mD r)
theorem sign_nought {n : Nat} (hn : Wd n) (neg : Bool) : signN n neg 0 = 0 := by rcases hn with rfl | rfl | rfl | rfl <;> cases neg <;> rfl
theorem rdF_sz {n b : Nat} (hn : Wd n) (h : b % 9223372036854775808 < 9218868437227405312) : rdF n b = signN n (b / 9223372036854775808 == 1) (szF n (b % 9223372036854775808)) := by
  unfold rdF szF
  by_cases c : b % 9223372036854775808 = 0
  · rw [if_pos c, if_pos c, sign_nought hn]
  · obtain ⟨m1, m2, m3, m4⟩ := mD_bounds (r := b % 9223372036854775808) (by omega) h
    rw [if_neg c, if_neg c, rdV_53 m1 m2]
end Go.Proofs.Ytpdpggndhmnggaa.M
