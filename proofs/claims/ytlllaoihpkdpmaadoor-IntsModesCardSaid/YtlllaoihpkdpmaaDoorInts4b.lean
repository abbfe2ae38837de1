/- Whole numbers' patterns: what is more is rounded to no less, the other sign to the other pattern; one width out of a raw number. -/
import Derived.Test.YtlllaoihpkdpmaaDoorF11b
import Derived.Test.YtlllaoihpkdpmaaDoorF21b
import Derived.Test.YtlllaoihpkdpmaaDoorInts3b
import Derived.Test.YtlllaoihpkdpmaaDoorMono2b
import Derived.Test.YtlllaoihpkdpmaaDoorOrd4b
namespace Go.Proofs.YtlllaoihpkdpmaaDoor.M
open Go.RowKit Go.Proofs.YtlllaoihpkdpmaaDoorW.PrintWords Go.Proofs.YtlllaoihpkdpmaaDoorW.PrintLast Go.Proofs.YtlllaoihpkdpmaaDoorW.PrintMore Go.Proofs.YtlllaoihpkdpmaaDoor.F
set_option linter.unusedVariables false
set_option linter.unusedSimpArgs false
/-- The size that a natural number is rounded to. -/
def rdS (n v : Nat) : Nat := if v = 0 then 0 else rdP n ((blen v : Int) - 1) (nmW v) false
theorem rdV_S {n : Nat} (hn : Wd n) (neg : Bool) (v : Nat) : rdV n neg 0 v = signN n neg (rdS n v) := by
  unfold rdV rdS rdN
  by_cases h : v = 0
  · rw [if_pos h, if_pos h]
    unfold signN
    rcases hn with rfl | rfl | rfl | rfl <;> cases neg <;> rfl
  · rw [if_neg h, if_neg h, Int.zero_add]
theorem rdS_le {n : Nat} (hn : Wd n) (v : Nat) : rdS n v ≤ 2 ^ (n - 1) - 1 := by
  unfold rdS
  split
  · exact Nat.zero_le _
  · exact (rdP_range hn _ _ _).2
theorem rdS_pos {n v : Nat} (hn : Wd n) (h : 0 < v) : 0 < rdS n v := by
  unfold rdS
  rw [if_neg (by omega)]
  exact (rdP_range hn _ _ _).1
theorem nm_low {v : Nat} (h0 : 0 < v) (h : v < 340282366920938463463374607431768211456) : nmW v % 2 ^ 127 + 170141183460469231731687303715884105728 = nmW v := by
  obtain ⟨a, b⟩ := nm_bounds h0 h
  rw [show (2 : Nat) ^ 127 = 170141183460469231731687303715884105728 by decide]
  omega
theorem ext_sign {n q : Nat} (hn : Wd n) (neg : Bool) (hq : q ≤ 2 ^ (n - 1) - 1) : ext (signN n neg q) n = if neg = true then -(q : Int) else (q : Int) := by
  rcases hn with rfl | rfl | rfl | rfl <;> cases neg <;> simp only [ext, signN, ngN, Nat.reduceSub, Nat.reducePow, Bool.false_eq_true, ↓reduceIte] at hq ⊢ <;> split <;> omega
theorem sign_word {n q : Nat} (hn : Wd n) (neg : Bool) (hq : q ≤ 2 ^ (n - 1) - 1) : signN n neg q < 18446744073709551616 := by
  have := half_lt hn
  exact sign_lt hn neg (by omega)
theorem ext_zero0 {n : Nat} (hn : Wd n) : ext 0 n = 0 := by rcases hn with rfl | rfl | rfl | rfl <;> rfl
theorem oSign_v {n p : Nat} (hn : Wd n) (hp : p < 18446744073709551616) (hk : kindN n p ≠ 2) : order_Sign.f (n : Int) (p : Int) = some ((if ext p n < 0 then -1 else if ext p n > 0 then 1 else 0), none) := by
  unfold order_Sign.f
  rw [Kind_eq hn hp]
  simp only [Option.bind_some, Option.isNone_none, ↓reduceIte]
  rw [if_neg hk]
  have := oCmp_v hn hp (show 0 < 18446744073709551616 by decide)
  rw [ext_zero0 hn] at this
  have t2 : order_Cmp.f (n : Int) (p : Int) 0 = _ := this
  rw [t2]
  rfl
theorem pick_ev (a : Int) (h0 : -9223372036854775808 ≤ a) (h1 : a < 9223372036854775808) : ∃ i : Nat, i < 4 ∧ vernierlaw16_pick.f a 4 = some (i : Int) := by
  unfold vernierlaw16_pick.f
  by_cases h : a < 0
  · rw [if_pos h, if_neg (by decide), w64 (x := a + 1) (by omega) (by omega), w64 (by omega) (by omega), tmod_nn (by omega)]
    exact ⟨(-(a + 1) % 4).toNat, by omega, by congr 1; omega⟩
  · rw [if_neg h, if_neg (by decide), tmod_nn (by omega)]
    exact ⟨(a % 4).toNat, by omega, by congr 1; omega⟩
theorem width_l0 : ∀ i j : Nat, i + j < 4 → Ev (fun k => vernierlaw16_width.l0 k ((8 * 2 ^ j : Nat) : Int) (i : Int)) ((8 * 2 ^ (j + i) : Nat) : Int) := by
  intro i
  induction i with
  | zero =>
    intro j h
    refine Ev.step (f := fun _ => some ((8 * 2 ^ j : Nat) : Int)) (fun k => ?_) (Ev.now _)
    simp only [vernierlaw16_width.l0]; rw [if_neg (by omega)]
  | succ i ih =>
    intro j h
    have hj := ih (j + 1) (by omega)
    rw [show j + 1 + i = j + (i + 1) by omega] at hj
    refine Ev.step (fun k => ?_) hj
    simp only [vernierlaw16_width.l0]
    have hp : 2 ^ j ≤ 2 ^ 3 := Nat.pow_le_pow_right (by decide) (by omega)
    have e : 2 ^ (j + 1) = 2 * 2 ^ j := Nat.pow_succ' ..
    rw [if_pos (by omega), w64 (by omega) (by omega), w64 (by omega) (by omega), show 2 * ((8 * 2 ^ j : Nat) : Int) = ((8 * 2 ^ (j + 1) : Nat) : Int) by omega, show ((i + 1 : Nat) : Int) - 1 = (i : Int) by omega]
theorem width_ev (a : Int) (h0 : -9223372036854775808 ≤ a) (h1 : a < 9223372036854775808) : ∃ n : Nat, Wd n ∧ Ev (fun k => vernierlaw16_width.f k a) (n : Int) := by
  obtain ⟨i, hi, he⟩ := pick_ev a h0 h1
  refine ⟨8 * 2 ^ (0 + i), ?_, ?_⟩
  · have : i = 0 ∨ i = 1 ∨ i = 2 ∨ i = 3 := by omega
    rcases this with rfl | rfl | rfl | rfl <;> unfold Wd <;> decide
  · unfold vernierlaw16_width.f
    exact Ev.bindp he (width_l0 i 0 (by omega))
end Go.Proofs.YtlllaoihpkdpmaaDoor.M
