/- The pattern that means a number, exactly: what the program's sixth layer answers, and its reference. -/
import Derived.Test.YtlllaoihpkdpmaaDoorF0a
import Derived.Test.YtlllaoihpkdpmaaDoorCod3a
import Derived.Test.YtlllaoihpkdpmaaDoorF12a
import Derived.Test.YtlllaoihpkdpmaaDoorF14a
namespace Go.Proofs.YtlllaoihpkdpmaaDoor.M
open Go.RowKit Go.Proofs.YtlllaoihpkdpmaaDoorW.PrintWords Go.Proofs.YtlllaoihpkdpmaaDoorW.PrintLast Go.Proofs.YtlllaoihpkdpmaaDoorW.PrintMore Go.Proofs.YtlllaoihpkdpmaaDoor.F
set_option linter.unusedVariables false
set_option linter.unusedSimpArgs false
/-- The run of a scale. -/
def runS (sc : Int) : Nat := if 0 ≤ sc / 4 then (sc / 4 + 1).toNat else (-(sc / 4)).toNat
theorem rg_of {x w : Nat} (hw : 0 < w) : (rgI x w ≥ 0 ↔ topB x w = true) ∧ runN x w = (if topB x w = true then (rgI x w + 1).toNat else (-(rgI x w)).toNat) := by
  have h0 := runN_pos (x := x) hw
  unfold rgI
  by_cases ht : topB x w = true
  · rw [if_pos ht, if_pos ht]; exact ⟨⟨fun _ => ht, fun _ => by omega⟩, by omega⟩
  · rw [if_neg ht, if_neg ht]; exact ⟨⟨fun h => by omega, fun h => absurd h ht⟩, by omega⟩
theorem scale_div {x w : Nat} (hw : 0 < w) : scI x w / 4 = rgI x w ∧ scI x w % 4 = (exN x w : Int) ∧ runS (scI x w) = runN x w ∧ decide (0 ≤ scI x w / 4) = topB x w := by
  have hx := exN_lt x w
  obtain ⟨r1, r2⟩ := rg_of (x := x) hw
  have e1 : scI x w / 4 = rgI x w := by unfold scI; omega
  have e2 : scI x w % 4 = (exN x w : Int) := by unfold scI; omega
  refine ⟨e1, e2, ?_, ?_⟩
  · unfold runS
    rw [e1, r2]
    by_cases ht : topB x w = true
    · rw [if_pos ht, if_pos (r1.mpr ht)]
    · rw [if_neg ht, if_neg (fun hh => ht (r1.mp hh))]
  · rw [e1, Bool.eq_iff_iff, decide_eq_true_eq]; exact r1
theorem and3 (x : Int) : Go.bits .and .i64 x 3 = x % 4 := by
  simp only [bits]
  have h1 : (BitVec.ofInt IntKind.i64.bits x &&& BitVec.ofInt IntKind.i64.bits 3).toNat = (x % 4).toNat := by
    show (BitVec.ofInt 64 x &&& BitVec.ofInt 64 3).toNat = _
    rw [BitVec.toNat_and, BitVec.toNat_ofInt, BitVec.toNat_ofInt]
    rw [show ((3 : Int) % ((2 ^ 64 : Nat) : Int)).toNat = 2 ^ 2 - 1 from rfl, Nat.and_two_pow_sub_one_eq_mod]
    rw [show ((2 ^ 64 : Nat) : Int) = 18446744073709551616 from rfl, show (2 : Nat) ^ 2 = 4 from rfl]
    omega
  rw [h1]
  have h2 : 0 ≤ x % 4 ∧ x % 4 < 4 := by omega
  rw [Int.toNat_of_nonneg h2.1]
  simp [IntKind.wrap, IntKind.bits, IntKind.signed]
  omega
end Go.Proofs.YtlllaoihpkdpmaaDoor.M

namespace Go.Proofs.YtlllaoihpkdpmaaDoor.M
open Go.RowKit Go.Proofs.YtlllaoihpkdpmaaDoorW.PrintWords Go.Proofs.YtlllaoihpkdpmaaDoorW.PrintLast Go.Proofs.YtlllaoihpkdpmaaDoorW.PrintMore Go.Proofs.YtlllaoihpkdpmaaDoor.F
set_option linter.unusedVariables false
set_option linter.unusedSimpArgs false
theorem kind_cases (n p : Nat) : (kindN n p = 0 ∧ p % 2 ^ n = 0) ∨ (kindN n p = 2 ∧ p % 2 ^ n = 2 ^ (n - 1)) ∨ kindN n p = 1 := by
  unfold kindN
  by_cases h0 : p % 2 ^ n = 0
  · rw [if_pos h0]; exact Or.inl ⟨rfl, h0⟩
  · rw [if_neg h0]
    by_cases h1 : p % 2 ^ n = 2 ^ (n - 1)
    · rw [if_pos h1]; exact Or.inr (Or.inl ⟨rfl, h1⟩)
    · rw [if_neg h1]; exact Or.inr (Or.inr rfl)
theorem means_other {ε : Type} {n p : Nat} (hk : kindN n p ≠ 1) (e : ε) : meansT n p e = (kindN n p, false, 0, 0, e) := by unfold meansT; rw [if_neg hk]
theorem means_real {ε : Type} {n p : Nat} (hk : kindN n p = 1) (e : ε) : meansT n p e = (1, topB p n, scI (abN n p) (n - 1), (mtN (abN n p) (n - 1) : Int), e) := by unfold meansT; rw [if_pos hk]
theorem mt_word {n p : Nat} (h : Wd n) : mtN (abN n p) (n - 1) < 18446744073709551616 := by
  have h1 := h.le
  have h2 := h.ge
  have := mtN_lt (x := abN n p) (w := n - 1) (by omega) (by omega)
  unfold mtN; omega
end Go.Proofs.YtlllaoihpkdpmaaDoor.M
