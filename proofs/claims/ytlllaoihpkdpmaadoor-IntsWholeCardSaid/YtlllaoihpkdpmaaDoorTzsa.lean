/- How many noughts stand at a word's end: the library's look-up in its table, in arithmetic. -/
import Derived.Test.YtlllaoihpkdpmaaDoorF5a
import Derived.Test.YtlllaoihpkdpmaaDoorWordsa
import Derived.Test.YtlllaoihpkdpmaaDoorLeada
namespace Go.Proofs.YtlllaoihpkdpmaaDoor.M
open Go.RowKit Go.Proofs.YtlllaoihpkdpmaaDoorW.PrintWords Go.Proofs.YtlllaoihpkdpmaaDoorW.PrintLast Go.Proofs.YtlllaoihpkdpmaaDoorW.PrintMore Go.Proofs.YtlllaoihpkdpmaaDoor.F
set_option linter.unusedVariables false
set_option linter.unusedSimpArgs false
/-- Noughts at the end, of at most f places. -/
def tzN : Nat → Nat → Nat
  | 0, _ => 0
  | f + 1, x => if x % 2 = 1 then 0 else tzN f (x / 2) + 1
theorem tz_split : ∀ f x : Nat, 0 < x → x < 2 ^ f → ∃ k, x = (2 * k + 1) * 2 ^ tzN f x ∧ tzN f x < f := by
  intro f
  induction f with
  | zero => intro x h0 h1; simp at h1; omega
  | succ f ih =>
    intro x h0 h1
    unfold tzN
    by_cases c : x % 2 = 1
    · rw [if_pos c]
      exact ⟨x / 2, by rw [Nat.pow_zero]; omega, by omega⟩
    · rw [if_neg c]
      rw [Nat.pow_succ] at h1
      obtain ⟨k, hk, hl⟩ := ih (x / 2) (by omega) (by omega)
      refine ⟨k, ?_, by omega⟩
      rw [Nat.pow_succ, ← Nat.mul_assoc, ← hk]
      omega
theorem low_one {k t : Nat} (ht : t < 64) (hk : (2 * k + 1) * 2 ^ t < 18446744073709551616) : ((2 * k + 1) * 2 ^ t) &&& (18446744073709551616 - (2 * k + 1) * 2 ^ t) = 2 ^ t := by
  have hp : 0 < 2 ^ t := Nat.pow_pos (by decide)
  have e64 : 18446744073709551616 = 2 ^ (63 - t) * 2 * 2 ^ t := by rw [← Nat.pow_succ, ← Nat.pow_add, show (63 - t).succ + t = 64 by omega]
  have hkk : k < 2 ^ (63 - t) := by
    rw [e64] at hk
    have := Nat.lt_of_mul_lt_mul_right hk
    omega
  obtain ⟨j, hj⟩ : ∃ j, j = 2 ^ (63 - t) - (k + 1) := ⟨_, rfl⟩
  have e2 : 18446744073709551616 - (2 * k + 1) * 2 ^ t = (2 * j + 1) * 2 ^ t := by
    rw [e64, ← Nat.sub_mul]
    congr 1
    omega
  rw [e2, ← Nat.shiftLeft_eq, ← Nat.shiftLeft_eq, ← Nat.shiftLeft_and_distrib]
  have e3 : (2 * k + 1) &&& (2 * j + 1) = 1 := by
    apply Nat.eq_of_testBit_eq
    intro i
    rw [Nat.testBit_and]
    cases i with
    | zero => simp
    | succ i =>
      have a1 : (2 * k + 1).testBit (i + 1) = k.testBit i := by rw [Nat.testBit_succ]; congr 1; omega
      have a2 : (2 * j + 1).testBit (i + 1) = j.testBit i := by rw [Nat.testBit_succ]; congr 1; omega
      have a3 : (1 : Nat).testBit (i + 1) = false := by rw [Nat.testBit_succ]; simp
      rw [a1, a2, a3, hj, Nat.testBit_two_pow_sub_succ hkk]
      cases k.testBit i <;> simp
  rw [e3, Nat.shiftLeft_eq, Nat.one_mul]
theorem tab_at : ∀ t : Fin 64, tzTab.getD (2 ^ t.val * 285870213051353865 % 18446744073709551616 / 288230376151711744) 0 = (t.val : Int) := by decide +kernel
theorem Trail64 {x : Nat} (h0 : 0 < x) (hx : x < 18446744073709551616) : bits_TrailingZeros64.f (x : Int) = some ((tzN 64 x : Nat) : Int) := by
  obtain ⟨k, hk, ht⟩ := tz_split 64 x h0 (by rw [p64']; exact hx)
  unfold bits_TrailingZeros64.f
  have e1 : IntKind.u64.wrap (-(x : Int)) = ((18446744073709551616 - x : Nat) : Int) := by rw [u64w]; omega
  have hl := low_one (k := k) ht (by rw [← hk]; exact hx)
  rw [← hk] at hl
  rw [if_neg (by omega), e1, and_nat hx (by omega), hl]
  have hp2 : 2 ^ tzN 64 x < 18446744073709551616 := by rw [← p64']; exact Nat.pow_lt_pow_right (by decide) ht
  have e2 : IntKind.u64.wrap (((2 ^ tzN 64 x : Nat) : Int) * 285870213051353865) = ((2 ^ tzN 64 x * 285870213051353865 % 18446744073709551616 : Nat) : Int) := by
    rw [u64w, Int.natCast_emod, Int.natCast_mul]; rfl
  have e3 : ((2 ^ tzN 64 x * 285870213051353865 % 18446744073709551616 : Nat) : Int) / 288230376151711744 = ((2 ^ tzN 64 x * 285870213051353865 % 18446744073709551616 / 288230376151711744 : Nat) : Int) := rfl
  rw [e2, e3, rd_nat]
  have := tab_at ⟨tzN 64 x, ht⟩
  rw [this]
/-- So many noughts at the end: it is a multiple. -/
theorem tz_dvd {x j : Nat} (h0 : 0 < x) (hx : x < 18446744073709551616) : j ≤ tzN 64 x ↔ x % 2 ^ j = 0 := by
  obtain ⟨k, hk, ht⟩ := tz_split 64 x h0 (by rw [p64']; exact hx)
  generalize tzN 64 x = t at *
  constructor
  · intro h
    rw [hk, show t = (t - j) + j by omega, Nat.pow_add, ← Nat.mul_assoc]
    exact Nat.mul_mod_left _ _
  · intro h
    rcases Nat.lt_or_ge t j with c | c
    · exfalso
      have hp : 0 < 2 ^ t := Nat.pow_pos (by decide)
      have e : 2 ^ j = 2 ^ (j - t) * 2 ^ t := by rw [← Nat.pow_add, show j - t + t = j by omega]
      rw [hk, e, Nat.mul_mod_mul_right] at h
      have h1 : (2 * k + 1) % 2 ^ (j - t) = 0 := by
        rcases Nat.mul_eq_zero.mp h with h | h
        · exact h
        · omega
      have e2 : 2 ^ (j - t) = 2 * 2 ^ (j - t - 1) := by rw [← Nat.pow_succ']; congr 1; omega
      have h2 : (2 * k + 1) % 2 ^ (j - t) % 2 = (2 * k + 1) % 2 := by rw [e2, Nat.mod_mul_right_mod]
      rw [h1] at h2
      omega
    · exact c
end Go.Proofs.YtlllaoihpkdpmaaDoor.M
