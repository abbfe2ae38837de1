/- Noughts behind a string of bits change nothing of what it means. -/
import Derived.Test.YtmofdimkdkfdgaaF6
import Derived.Test.YtmofdimkdkfdgaaCod5
namespace Go.Proofs.Ytmofdimkdkfdgaa.M
open Go.RowKit Go.Proofs.YtmofdimkdkfdgaaW.PrintWords Go.Proofs.YtmofdimkdkfdgaaW.PrintLast Go.Proofs.YtmofdimkdkfdgaaW.PrintMore Go.Proofs.Ytmofdimkdkfdgaa.F
set_option linter.unusedVariables false
set_option linter.unusedSimpArgs false
theorem ng_wide {n d p : Nat} (h : Wd n) (h2 : Wd (n + d)) (hp : p < 18446744073709551616) : ngN (p * 2 ^ d % 18446744073709551616) % 2 ^ (n + d - 1) = ngN p * 2 ^ d % 2 ^ (n + d - 1) := by
  unfold ngN
  have hd : d = 0 ∨ d = 8 ∨ d = 16 ∨ d = 24 ∨ d = 32 ∨ d = 48 ∨ d = 56 := by unfold Wd at h h2; omega
  rcases hd with rfl | rfl | rfl | rfl | rfl | rfl | rfl <;> rcases h with rfl | rfl | rfl | rfl <;> first
    | (exfalso; unfold Wd at h2; omega)
    | (simp only [Nat.reducePow, Nat.reduceAdd, Nat.reduceSub]; omega)
theorem means_wide {ε : Type} {n d p : Nat} (h : Wd n) (h2 : Wd (n + d)) (hp : p < 18446744073709551616) (e : ε) : meansT (n + d) (p * 2 ^ d % 18446744073709551616) e = meansT n p e := by
  have g1 := h.ge
  have g2 := h2.le
  have hd : 0 < 2 ^ d := Nat.pow_pos (by decide)
  have k0 : p * 2 ^ d % 18446744073709551616 % 2 ^ (n + d) = p * 2 ^ d % 2 ^ (n + d) := by rw [← p64']; exact mod_pow_mod _ g2
  have k1 : p * 2 ^ d % 2 ^ (n + d) = p % 2 ^ n * 2 ^ d := by rw [Nat.pow_add, Nat.mul_mod_mul_right]
  have k3 : topB (p * 2 ^ d % 18446744073709551616) (n + d) = topB p n := by rw [top_congr k0, top_wide p n d (by omega)]
  have k4 : 2 ^ (n + d - 1) = 2 ^ (n - 1) * 2 ^ d := by rw [← Nat.pow_add]; congr 1; omega
  have kk : kindN (n + d) (p * 2 ^ d % 18446744073709551616) = kindN n p := by
    unfold kindN
    rw [k0, k1, k4]
    by_cases c1 : p % 2 ^ n = 0
    · rw [if_pos c1, if_pos (by rw [c1, Nat.zero_mul])]
    · rw [if_neg c1, if_neg (fun hh => c1 ((Nat.mul_eq_zero.mp hh).resolve_right (by omega)))]
      by_cases c2 : p % 2 ^ n = 2 ^ (n - 1)
      · rw [if_pos c2, if_pos (by rw [c2])]
      · rw [if_neg c2, if_neg (fun hh => c2 (Nat.eq_of_mul_eq_mul_right hd hh))]
  by_cases hk : kindN n p = 1
  · have hpos := ab_pos h hp hk
    have ka : abN (n + d) (p * 2 ^ d % 18446744073709551616) % 2 ^ (n - 1 + d) = abN n p * 2 ^ d % 2 ^ (n - 1 + d) := by
      unfold abN
      rw [k3, show n - 1 + d = n + d - 1 by omega]
      split
      · exact ng_wide h h2 hp
      · rw [← p64']; exact mod_pow_mod _ (by omega)
    have e1 : scI (abN (n + d) (p * 2 ^ d % 18446744073709551616)) (n - 1 + d) = scI (abN n p) (n - 1) := by
      rw [← sc_wide (d := d) (by omega) hpos (by omega)]
      unfold scI; rw [rg_congr ka, exN_congr ka]
    have e2 : mtN (abN (n + d) (p * 2 ^ d % 18446744073709551616)) (n - 1 + d) = mtN (abN n p) (n - 1) := by
      rw [← mt_wide (d := d) (by omega) hpos (by omega)]
      unfold mtN; rw [fb_congr ka, frN_congr ka]
    unfold meansT
    rw [kk, if_pos hk, if_pos hk, k3, show n + d - 1 = n - 1 + d by omega, e1, e2]
  · unfold meansT
    rw [kk, if_neg hk, if_neg hk]
end Go.Proofs.Ytmofdimkdkfdgaa.M
