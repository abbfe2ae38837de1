/- What the laws of the sixth layer lean on beyond: kinds of patterns, numbers that patterns mean. -/
import Derived.Test.YtcokamomcnmocaaF7
import Derived.Test.YtcokamomcnmocaaCod5
namespace Go.Proofs.Ytcokamomcnmocaa.M
open Go.RowKit Go.Proofs.YtcokamomcnmocaaW.PrintWords Go.Proofs.YtcokamomcnmocaaW.PrintLast Go.Proofs.YtcokamomcnmocaaW.PrintMore Go.Proofs.Ytcokamomcnmocaa.F
set_option linter.unusedVariables false
set_option linter.unusedSimpArgs false
theorem kind_cases (n p : Nat) : (kindN n p = 0 ∧ p % 2 ^ n = 0) ∨ (kindN n p = 2 ∧ p % 2 ^ n = 2 ^ (n - 1)) ∨ kindN n p = 1 := by
  unfold kindN
  by_cases h0 : p % 2 ^ n = 0
  · rw [if_pos h0]; exact Or.inl ⟨rfl, h0⟩
  · rw [if_neg h0]
    by_cases h1 : p % 2 ^ n = 2 ^ (n - 1)
    · rw [if_pos h1]; exact Or.inr (Or.inl ⟨rfl, h1⟩)
    · rw [if_neg h1]; exact Or.inr (Or.inr rfl)
theorem means_other {ε : Type} {n p : Nat} (hk : kindN n p ≠ 1) (e : ε) : meansT n p e = (kindN n p, false, 0, 0, e) := by unfold meansT; rw [if_neg hk]
theorem means_real {ε : Type} {n p : Nat} (hk : kindN n p = 1) (e : ε) : meansT n p e = (1, topB p n, scI (abN n p) (n - 1), (mtN (abN n p) (n - 1) : Int), e) := by unfold meansT; rw [if_pos hk]
theorem mt_word {n p : Nat} (h : Wd n) : mtN (abN n p) (n - 1) < 18446744073709551616 := by
  have h1 := h.le
  have h2 := h.ge
  have := mtN_lt (x := abN n p) (w := n - 1) (by omega) (by omega)
  unfold mtN; omega
/-- What a pattern means is such a number. -/
theorem means_sound {ε : Type} {n p : Nat} {kind : Int} {neg : Bool} {sc fr : Int} {e e' : ε} (h : Wd n) (hm : meansT n p e = (kind, neg, sc, fr, e')) : sndB kind neg sc fr = true := by
  have h1 := h.le
  have h2 := h.ge
  rcases kind_cases n p with ⟨hk, _⟩ | ⟨hk, _⟩ | hk
  · rw [means_other (by omega)] at hm
    simp only [Prod.mk.injEq] at hm
    obtain ⟨rfl, rfl, rfl, rfl, _⟩ := hm
    unfold sndB; rw [if_pos (Or.inl hk)]; rfl
  · rw [means_other (by omega)] at hm
    simp only [Prod.mk.injEq] at hm
    obtain ⟨rfl, rfl, rfl, rfl, _⟩ := hm
    unfold sndB; rw [if_pos (Or.inr hk)]; rfl
  · rw [means_real hk] at hm
    simp only [Prod.mk.injEq] at hm
    obtain ⟨rfl, rfl, rfl, rfl, _⟩ := hm
    have hb := sc_bound (x := abN n p) (w := n - 1) (by omega)
    have hx := exN_lt (abN n p) (n - 1)
    unfold sndB
    rw [if_neg (by decide), decide_eq_true_eq]
    have hs : scI (abN n p) (n - 1) = 4 * rgI (abN n p) (n - 1) + (exN (abN n p) (n - 1) : Int) := rfl
    have hf : (mtN (abN n p) (n - 1) : Int) = 9223372036854775808 + ((frN (abN n p) (n - 1) * 2 ^ (63 - fbN (abN n p) (n - 1)) : Nat) : Int) := by unfold mtN; omega
    omega
end Go.Proofs.Ytcokamomcnmocaa.M
