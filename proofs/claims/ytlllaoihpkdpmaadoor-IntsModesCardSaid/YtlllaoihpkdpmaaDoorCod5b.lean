/- The sixth layer's reference: the string that parts seem to write, and the pattern that it joins; program and reference agree on any parts. -/
import Derived.Test.YtlllaoihpkdpmaaDoorF14b
import Derived.Test.YtlllaoihpkdpmaaDoorF0b
import Derived.Test.YtlllaoihpkdpmaaDoorCod3b
namespace Go.Proofs.YtlllaoihpkdpmaaDoor.M
open Go.RowKit Go.Proofs.YtlllaoihpkdpmaaDoorW.PrintWords Go.Proofs.YtlllaoihpkdpmaaDoorW.PrintLast Go.Proofs.YtlllaoihpkdpmaaDoorW.PrintMore Go.Proofs.YtlllaoihpkdpmaaDoor.F
set_option linter.unusedVariables false
set_option linter.unusedSimpArgs false
/-- A run and the bit that ends it. -/
def hdN (ones : Bool) (r : Nat) : Nat := if ones = true then (2 ^ r - 1) * 2 else 1
end Go.Proofs.YtlllaoihpkdpmaaDoor.M

namespace Go.Proofs.YtlllaoihpkdpmaaDoor.M
open Go.RowKit Go.Proofs.YtlllaoihpkdpmaaDoorW.PrintWords Go.Proofs.YtlllaoihpkdpmaaDoorW.PrintLast Go.Proofs.YtlllaoihpkdpmaaDoorW.PrintMore Go.Proofs.YtlllaoihpkdpmaaDoor.F
set_option linter.unusedVariables false
set_option linter.unusedSimpArgs false
/-- The run of a scale. -/
def runS (sc : Int) : Nat := if 0 ≤ sc / 4 then (sc / 4 + 1).toNat else (-(sc / 4)).toNat
theorem rg_of {x w : Nat} (hw : 0 < w) : (rgI x w ≥ 0 ↔ topB x w = true) ∧ runN x w = (if topB x w = true then (rgI x w + 1).toNat else (-(rgI x w)).toNat) := by
  have h0 := runN_pos (x := x) hw
  unfold rgI
  by_cases ht : topB x w = true
  · rw [if_pos ht, if_pos ht]; exact ⟨⟨fun _ => ht, fun _ => by omega⟩, by omega⟩
  · rw [if_neg ht, if_neg ht]; exact ⟨⟨fun h => by omega, fun h => absurd h ht⟩, by omega⟩
theorem scale_div {x w : Nat} (hw : 0 < w) : scI x w / 4 = rgI x w ∧ scI x w % 4 = (exN x w : Int) ∧ runS (scI x w) = runN x w ∧ decide (0 ≤ scI x w / 4) = topB x w := by
  have hx := exN_lt x w
  obtain ⟨r1, r2⟩ := rg_of (x := x) hw
  have e1 : scI x w / 4 = rgI x w := by unfold scI; omega
  have e2 : scI x w % 4 = (exN x w : Int) := by unfold scI; omega
  refine ⟨e1, e2, ?_, ?_⟩
  · unfold runS
    rw [e1, r2]
    by_cases ht : topB x w = true
    · rw [if_pos ht, if_pos (r1.mpr ht)]
    · rw [if_neg ht, if_neg (fun hh => ht (r1.mp hh))]
  · rw [e1, Bool.eq_iff_iff, decide_eq_true_eq]; exact r1
theorem and3 (x : Int) : Go.bits .and .i64 x 3 = x % 4 := by
  simp only [bits]
  have h1 : (BitVec.ofInt IntKind.i64.bits x &&& BitVec.ofInt IntKind.i64.bits 3).toNat = (x % 4).toNat := by
    show (BitVec.ofInt 64 x &&& BitVec.ofInt 64 3).toNat = _
    rw [BitVec.toNat_and, BitVec.toNat_ofInt, BitVec.toNat_ofInt]
    rw [show ((3 : Int) % ((2 ^ 64 : Nat) : Int)).toNat = 2 ^ 2 - 1 from rfl, Nat.and_two_pow_sub_one_eq_mod]
    rw [show ((2 ^ 64 : Nat) : Int) = 18446744073709551616 from rfl, show (2 : Nat) ^ 2 = 4 from rfl]
    omega
  rw [h1]
  have h2 : 0 ≤ x % 4 ∧ x % 4 < 4 := by omega
  rw [Int.toNat_of_nonneg h2.1]
  simp [IntKind.wrap, IntKind.bits, IntKind.signed]
  omega
end Go.Proofs.YtlllaoihpkdpmaaDoor.M
