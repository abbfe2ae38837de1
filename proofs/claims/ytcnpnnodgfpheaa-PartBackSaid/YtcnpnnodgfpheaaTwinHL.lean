/- The program's second layer at numbers that are told by an upper and a lower word. -/
import Derived.Test.YtcnpnnodgfpheaaF4
import Derived.Test.YtcnpnnodgfpheaaTwinLaw
namespace Go.Proofs.Ytcnpnnodgfpheaa.M
open Go.RowKit Go.Proofs.YtcnpnnodgfpheaaW.PrintWords Go.Proofs.YtcnpnnodgfpheaaW.PrintLast Go.Proofs.YtcnpnnodgfpheaaW.PrintMore Go.Proofs.Ytcnpnnodgfpheaa.F
set_option linter.unusedVariables false
set_option linter.unusedSimpArgs false
theorem tw_hl (s : Nat) : tw (s / 18446744073709551616 % 18446744073709551616) (s % 18446744073709551616) = s % 340282366920938463463374607431768211456 := by unfold tw; omega
theorem hi_mod (s : Nat) : hi (s % 340282366920938463463374607431768211456) = hi s := by unfold hi; congr 1; omega
theorem lo_mod (s : Nat) : lo (s % 340282366920938463463374607431768211456) = lo s := by unfold lo; congr 1; omega
theorem hi_of {s t : Nat} (h : s % 340282366920938463463374607431768211456 = t % 340282366920938463463374607431768211456) : hi s = hi t := by rw [← hi_mod s, h, hi_mod]
theorem lo_of {s t : Nat} (h : s % 340282366920938463463374607431768211456 = t % 340282366920938463463374607431768211456) : lo s = lo t := by rw [← lo_mod s, h, lo_mod]
theorem hl_lt (s : Nat) : s / 18446744073709551616 % 18446744073709551616 < 18446744073709551616 := Nat.mod_lt _ (by decide)
theorem ll_lt (s : Nat) : s % 18446744073709551616 < 18446744073709551616 := Nat.mod_lt _ (by decide)
theorem Sub_hl (s t : Nat) : twin_Sub.f (hi s) (lo s) (hi t) (lo t) = some (hi (s % 340282366920938463463374607431768211456 + 340282366920938463463374607431768211456 - t % 340282366920938463463374607431768211456), lo (s % 340282366920938463463374607431768211456 + 340282366920938463463374607431768211456 - t % 340282366920938463463374607431768211456), decide (s % 340282366920938463463374607431768211456 < t % 340282366920938463463374607431768211456)) := by
  have h := Sub_eq (hl_lt s) (ll_lt s) (hl_lt t) (ll_lt t)
  rw [tw_hl, tw_hl] at h
  exact h
theorem Add_hl (s t : Nat) : twin_Add.f (hi s) (lo s) (hi t) (lo t) = some (hi (s % 340282366920938463463374607431768211456 + t % 340282366920938463463374607431768211456), lo (s % 340282366920938463463374607431768211456 + t % 340282366920938463463374607431768211456), decide (340282366920938463463374607431768211456 ≤ s % 340282366920938463463374607431768211456 + t % 340282366920938463463374607431768211456)) := by
  have h := Add_eq (hl_lt s) (ll_lt s) (hl_lt t) (ll_lt t)
  rw [tw_hl, tw_hl] at h
  exact h
theorem Cmp_hl (s t : Nat) : twin_Cmp.f (hi s) (lo s) (hi t) (lo t) = some (cmp (s % 340282366920938463463374607431768211456) (t % 340282366920938463463374607431768211456)) := by
  have h := Cmp_eq (hl_lt s) (ll_lt s) (hl_lt t) (ll_lt t)
  rw [tw_hl, tw_hl] at h
  exact h
theorem Shr_hl (s k : Nat) : twin_Shr.f (hi s) (lo s) (k : Int) = some (hi (s % 340282366920938463463374607431768211456 / 2 ^ (min k 128)), lo (s % 340282366920938463463374607431768211456 / 2 ^ (min k 128)), decide (s % 340282366920938463463374607431768211456 % 2 ^ (min k 128) ≠ 0), none) := by
  have h := Shr_eq (hl_lt s) (ll_lt s) k
  rw [tw_hl] at h
  exact h
theorem Shl_hl (s k : Nat) : Ev (fun n => twin_Shl.f n (hi s) (lo s) (k : Int)) (hi (s % 340282366920938463463374607431768211456 * 2 ^ (min k 128)), lo (s % 340282366920938463463374607431768211456 * 2 ^ (min k 128)), decide (340282366920938463463374607431768211456 ≤ s % 340282366920938463463374607431768211456 * 2 ^ (min k 128)), none) := by
  have h := Shl_eq (hl_lt s) (ll_lt s) k
  rw [tw_hl] at h
  exact h
theorem hi_inj {s t : Nat} (hs : s < 340282366920938463463374607431768211456) (ht : t < 340282366920938463463374607431768211456) (h1 : hi s = hi t) (h2 : lo s = lo t) : s = t := by unfold hi at h1; unfold lo at h2; omega
theorem pow128_dvd {m : Nat} (hm : m ≤ 128) : ∃ q, 340282366920938463463374607431768211456 = 2 ^ m * q := ⟨2 ^ (128 - m), by rw [← Nat.pow_add, show m + (128 - m) = 128 by omega, p128]⟩
end Go.Proofs.Ytcnpnnodgfpheaa.M
