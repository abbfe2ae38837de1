/- What the program's sixth layer makes of .. -/
import Derived.Test.YtjlaijaadclghaaF0Q
import Derived.Test.YtjlaijaadclghaaCod2Q
import Derived.Test.YtjlaijaadclghaaF15Q
namespace Go.Proofs.Ytjlaijaadclghaa.M
open RowKit YtjlaijaadclghaaW PrintWords PrintLast PrintMore F
set_option linter.all false
def signN (n : Nat) (neg : Bool) (m : Nat) : Nat := if neg = true then ngN m % 2 ^ n else m
theorem ab_pos {n p : Nat} (h : Wd n) (hp : p < 18446744073709551616) (hk : kindN n p = 1) : 0 < abN n p % 2 ^ (n - 1) := by
 have h1 : p % 2 ^ n ≠ 0 := by intro g; unfold kindN at hk; rw [if_pos g] at hk; omega
 have h2 : p % 2 ^ n ≠ 2 ^ (n - 1) := by intro g; unfold kindN at hk; rw [if_neg h1, if_pos g] at hk; omega
 unfold abN
 by_cases ht : topB p n = true
 ·
  rw [if_pos ht]
  unfold topB at ht
  rw [decide_eq_true_eq] at ht
  unfold ngN
  rcases h with rfl | rfl | rfl | rfl <;> simp only [Nat.reducePow, Nat.reduceSub] at * <;> omega
 ·
  rw [if_neg ht]
  unfold topB at ht
  rw [decide_eq_true_eq] at ht
  rcases h with rfl | rfl | rfl | rfl <;> simp only [Nat.reducePow, Nat.reduceSub] at * <;> omega
abbrev F8 := Bool × Bool × Int × Int × Int × Int × Int × Int
noncomputable instance F8.dec (a b : F8) : Decidable (a = b) := Classical.propDecidable (a = b)
def F8.with {ε : Type} (f : F8) (e : ε) : Bool × Bool × Int × Int × Int × Int × Int × Int × ε := (f.1, f.2.1, f.2.2.1, f.2.2.2.1, f.2.2.2.2.1, f.2.2.2.2.2.1, f.2.2.2.2.2.2.1, f.2.2.2.2.2.2.2, e)
end Go.Proofs.Ytjlaijaadclghaa.M

namespace Go.Proofs.Ytjlaijaadclghaa.M
open RowKit YtjlaijaadclghaaW PrintWords PrintLast PrintMore F
set_option linter.all false
theorem Fold06_ev {n a : Nat} (h : Wd n) (ha : a < 18446744073709551616) : Ev (fun k => vernierref06_Fold.f k (n : Int) (a : Int)) ((a % 2 ^ n : Nat) : Int) := by
 unfold vernierref06_Fold.f
 exact Ev.bind (Fold05_ev h ha) (Ev.now _)
theorem Neg06_ev {n a : Nat} (h : Wd n) (ha : a < 18446744073709551616) : Ev (fun k => vernierref06_Neg.f k (n : Int) (a : Int)) ((ngN a % 2 ^ n : Nat) : Int) := by
 unfold vernierref06_Neg.f
 rw [neg_word ha]
 exact Ev.bind (Fold06_ev h (ngN_lt a)) (Ev.now _)
def hdN (ones : Bool) (r : Nat) : Nat := if ones = true then (2 ^ r - 1) * 2 else 1
end Go.Proofs.Ytjlaijaadclghaa.M

namespace Go.Proofs.Ytjlaijaadclghaa.M
open RowKit YtjlaijaadclghaaW PrintWords PrintLast PrintMore F
set_option linter.all false
def runS (sc : Int) : Nat := if 0 ≤ sc / 4 then (sc / 4 + 1).toNat else (-(sc / 4)).toNat
theorem rg_of {x w : Nat} (hw : 0 < w) : (rgI x w ≥ 0 ↔ topB x w = true) ∧ runN x w = (if topB x w = true then (rgI x w + 1).toNat else (-(rgI x w)).toNat) := by
 have h0 := runN_pos (x := x) hw
 unfold rgI
 by_cases ht : topB x w = true
 ·
  rw [if_pos ht, if_pos ht]; exact ⟨⟨fun _ => ht, fun _ => by omega⟩, by omega⟩
 ·
  rw [if_neg ht, if_neg ht]; exact ⟨⟨fun h => by omega, fun h => absurd h ht⟩, by omega⟩
theorem scale_div {x w : Nat} (hw : 0 < w) : scI x w / 4 = rgI x w ∧ scI x w % 4 = (exN x w : Int) ∧ runS (scI x w) = runN x w ∧ decide (0 ≤ scI x w / 4) = topB x w := by
 have hx := exN_lt x w
 obtain ⟨r1, r2⟩ := rg_of (x := x) hw
 have e1 : scI x w / 4 = rgI x w := by unfold scI; omega
 have e2 : scI x w % 4 = (exN x w : Int) := by unfold scI; omega
 refine ⟨e1, e2, ?_, ?_⟩
 ·
  unfold runS
  rw [e1, r2]
  by_cases ht : topB x w = true
  ·
   rw [if_pos ht, if_pos (r1.mpr ht)]
  ·
   rw [if_neg ht, if_neg (fun hh => ht (r1.mp hh))]
 ·
  rw [e1, Bool.eq_iff_iff, decide_eq_true_eq]; exact r1
theorem and3 (x : Int) : Go.bits .and .i64 x 3 = x % 4 := by
 simp only [bits]
 have h1 : (BitVec.ofInt IntKind.i64.bits x &&& BitVec.ofInt IntKind.i64.bits 3).toNat = (x % 4).toNat := by
  show (BitVec.ofInt 64 x &&& BitVec.ofInt 64 3).toNat = _
  rw [BitVec.toNat_and, BitVec.toNat_ofInt, BitVec.toNat_ofInt]
  rw [show ((3 : Int) % ((2 ^ 64 : Nat) : Int)).toNat = 2 ^ 2 - 1 from rfl, Nat.and_two_pow_sub_one_eq_mod]
  rw [show ((2 ^ 64 : Nat) : Int) = 18446744073709551616 from rfl, show (2 : Nat) ^ 2 = 4 from rfl]
  omega
 rw [h1]
 have h2 : 0 ≤ x % 4 ∧ x % 4 < 4 := by omega
 rw [Int.toNat_of_nonneg h2.1]
 simp [IntKind.wrap, IntKind.bits, IntKind.signed]
 omega
end Go.Proofs.Ytjlaijaadclghaa.M
