/- What the program's first layer computes, second part: runs, signed numbers, texts; and the reference's. -/
import Derived.Test.YtpdpggndhmnggaaF11g
import Derived.Test.YtpdpggndhmnggaaLeadg
namespace Go.Proofs.Ytpdpggndhmnggaa.M
open Go.RowKit Go.Proofs.YtpdpggndhmnggaaW.PrintWords Go.Proofs.YtpdpggndhmnggaaW.PrintLast Go.Proofs.YtpdpggndhmnggaaW.PrintMore Go.Proofs.Ytpdpggndhmnggaa.F
set_option linter.unusedVariables false
set_option linter.unusedSimpArgs false
/-- What is counted: the lowest n bits, or, where the highest of them is a one, their complement. -/
def left (x n : Nat) : Nat := if 2 ^ (n - 1) ≤ x % 2 ^ n then 2 ^ n - 1 - x % 2 ^ n else x % 2 ^ n
/-- How far the highest of n bits runs. -/
def runN (x n : Nat) : Nat := n - blen (left x n)
def topB (x n : Nat) : Bool := decide (2 ^ (n - 1) ≤ x % 2 ^ n)
theorem left_lt {x n : Nat} (hn : 0 < n) : left x n < 2 ^ (n - 1) := by
  have hp : 2 ^ n = 2 ^ (n - 1) * 2 := by rw [← Nat.pow_succ]; congr 1; omega
  have h := Nat.mod_lt x (Nat.pow_pos (n := n) (show 0 < 2 by decide))
  unfold left
  split <;> omega
theorem blen_left {x n : Nat} (hn : 0 < n) : blen (left x n) ≤ n - 1 := blen_le_of (left_lt hn)
theorem runN_pos {x n : Nat} (hn : 0 < n) : 0 < runN x n := by have := blen_left (x := x) hn; unfold runN; omega
theorem runN_le (x n : Nat) : runN x n ≤ n := by unfold runN; omega
theorem shl_word {x n : Nat} (hn : n ≤ 64) : x * 2 ^ (64 - n) % 18446744073709551616 = x % 2 ^ n * 2 ^ (64 - n) := by
  have e : 18446744073709551616 = 2 ^ (64 - n) * 2 ^ n := by rw [← Nat.pow_add, show 64 - n + n = 64 by omega, p64']
  rw [e, Nat.mul_comm x, Nat.mul_mod_mul_left, Nat.mul_comm]
theorem blen_mul {v k : Nat} (hv : 0 < v) : blen (v * 2 ^ k) = blen v + k := by
  have hp : 0 < 2 ^ k := Nat.pow_pos (by decide)
  have := blen_shift (x := v * 2 ^ k) (k := k) (Nat.le_mul_of_pos_left _ hv)
  rw [Nat.mul_div_cancel _ hp] at this
  exact this
theorem blen_mul_add {v k r : Nat} (hv : 0 < v) (hr : r < 2 ^ k) : blen (v * 2 ^ k + r) = blen v + k := by
  have hp : 0 < 2 ^ k := Nat.pow_pos (by decide)
  have h1 : 2 ^ k ≤ v * 2 ^ k + r := Nat.le_trans (Nat.le_mul_of_pos_left _ hv) (Nat.le_add_right _ _)
  have := blen_shift (x := v * 2 ^ k + r) (k := k) h1
  rw [Nat.mul_comm v, Nat.mul_add_div hp, Nat.div_eq_of_lt hr, Nat.add_zero] at this
  rw [Nat.mul_comm v]; exact this
theorem blen_ones (k : Nat) : blen (2 ^ k - 1) = k := by
  have hp : 0 < 2 ^ k := Nat.pow_pos (by decide)
  rcases Nat.eq_zero_or_pos k with h | h
  · subst h; rfl
  · refine blen_unique (by omega) (Or.inr ?_)
    have e : 2 ^ k = 2 * 2 ^ (k - 1) := by rw [← Nat.pow_succ']; congr 1; omega
    have : 0 < 2 ^ (k - 1) := Nat.pow_pos (by decide)
    omega
theorem mn_int (a b : Nat) : mn (a : Int) (b : Int) = ((min a b : Nat) : Int) := by unfold mn; split <;> omega
theorem Run_ev {x n : Nat} (hx : x < 18446744073709551616) (h1 : 0 < n) (h2 : n ≤ 64) : Ev (fun k => lead_Run.f k (x : Int) (n : Int)) (topB x n, (runN x n : Int), none) := by
  have hv := Nat.mod_lt x (Nat.pow_pos (n := n) (show 0 < 2 by decide))
  have e64 : 2 ^ n * 2 ^ (64 - n) = 18446744073709551616 := by rw [← Nat.pow_add, show n + (64 - n) = 64 by omega, p64']
  have hk : 0 < 2 ^ (64 - n) := Nat.pow_pos (by decide)
  have ew : wrap64 (64 - (n : Int)) = ((64 - n : Nat) : Int) := by rw [w64 (by omega) (by omega)]; omega
  have hy : x % 2 ^ n * 2 ^ (64 - n) + 2 ^ (64 - n) ≤ 18446744073709551616 := by rw [← e64, ← Nat.succ_mul]; exact Nat.mul_le_mul_right _ hv
  have hb := blen_left (x := x) h1
  unfold lead_Run.f
  refine Ev.congr (f := fun k => lead_Run.j0 k (x : Int) (n : Int) false) (fun k => ?_) ?_
  · rw [if_neg (by omega)]
    have : decide ((n : Int) > 64) = false := decide_eq_false (by omega)
    rw [this]
  have e63 : 2 ^ (n - 1) * 2 ^ (64 - n) = 9223372036854775808 := by
    rw [← Nat.pow_add, show n - 1 + (64 - n) = 63 by omega]
  have et : (x % 2 ^ n * 2 ^ (64 - n)) / 9223372036854775808 = 1 ↔ topB x n = true := by
    unfold topB
    rw [decide_eq_true_eq]
    constructor
    · intro h
      rcases Nat.lt_or_ge (x % 2 ^ n) (2 ^ (n - 1)) with h3 | h3
      · have : (x % 2 ^ n) * 2 ^ (64 - n) < 9223372036854775808 := by rw [← e63]; exact Nat.mul_lt_mul_of_pos_right h3 hk
        omega
      · exact h3
    · intro h
      have : 9223372036854775808 ≤ x % 2 ^ n * 2 ^ (64 - n) := by rw [← e63]; exact Nat.mul_le_mul_right _ h
      omega
  have etb : ∀ c : Int, (((((x % 2 ^ n * 2 ^ (64 - n) : Nat) : Int)) / 9223372036854775808) == 1) = topB x n := by
    intro _
    rw [Bool.eq_iff_iff, beq_iff_eq, ← et]; omega
  refine Ev.step (f := fun k => (if (((x % 2 ^ n * 2 ^ (64 - n) : Nat) : Int) / 9223372036854775808) = 1 then ((bits_LeadingZeros64.f k ((18446744073709551615 - x % 2 ^ n * 2 ^ (64 - n) : Nat) : Int)).bind fun t => some (topB x n, mn t (n : Int), none)) else ((bits_LeadingZeros64.f k ((x % 2 ^ n * 2 ^ (64 - n) : Nat) : Int)).bind fun t => some (topB x n, mn t (n : Int), none)))) (fun k => ?_) ?_
  · simp only [lead_Run.j0]
    rw [if_neg (by simp), ew, if_pos (by omega), shl_nat, shl_word h2, not_nat (by omega), etb 0]
  · by_cases ht : topB x n = true
    · refine Ev.congr (fun k => if_pos (by have := et.mpr ht; omega)) ?_
      refine Ev.bind (LeadingZeros64_ev (by omega)) ?_
      have hz : min (64 - blen (18446744073709551615 - x % 2 ^ n * 2 ^ (64 - n))) n = runN x n := by
        have hl : left x n = 2 ^ n - 1 - x % 2 ^ n := by unfold left; unfold topB at ht; rw [decide_eq_true_eq] at ht; rw [if_pos ht]
        have e : 18446744073709551615 - x % 2 ^ n * 2 ^ (64 - n) = left x n * 2 ^ (64 - n) + (2 ^ (64 - n) - 1) := by
          rw [hl, Nat.sub_mul, Nat.sub_mul, e64, Nat.one_mul]; omega
        unfold runN
        rw [e]
        rcases Nat.eq_zero_or_pos (left x n) with h | h
        · rw [h, Nat.zero_mul, Nat.zero_add, blen_ones]; simp [blen]; omega
        · rw [blen_mul_add h (by omega)]; omega
      rw [mn_int, hz]
      exact Ev.now _
    · refine Ev.congr (fun k => if_neg (by intro h; exact ht (et.mp (by omega)))) ?_
      refine Ev.bind (LeadingZeros64_ev (by omega)) ?_
      have hz : min (64 - blen (x % 2 ^ n * 2 ^ (64 - n))) n = runN x n := by
        have hl : left x n = x % 2 ^ n := by unfold left; unfold topB at ht; rw [decide_eq_true_eq] at ht; rw [if_neg ht]
        unfold runN
        rw [hl]
        rw [hl] at hb
        rcases Nat.eq_zero_or_pos (x % 2 ^ n) with h | h
        · rw [h, Nat.zero_mul]; simp [blen]; omega
        · rw [blen_mul h]; omega
      rw [mn_int, hz]
      exact Ev.now _
/-- The lowest n bits as a signed number. -/
def ext (x n : Nat) : Int := if 2 ^ (n - 1) ≤ x % 2 ^ n then (x % 2 ^ n : Nat) - ((2 ^ n : Nat) : Int) else ((x % 2 ^ n : Nat) : Int)
theorem Extend_eq {x n : Nat} (hx : x < 18446744073709551616) (h1 : 0 < n) (h2 : n ≤ 64) : lead_Extend.f (x : Int) (n : Int) = some (ext x n, none) := by
  have hv := Nat.mod_lt x (Nat.pow_pos (n := n) (show 0 < 2 by decide))
  have e64 : 2 ^ n * 2 ^ (64 - n) = 18446744073709551616 := by rw [← Nat.pow_add, show n + (64 - n) = 64 by omega, p64']
  have e63 : 2 ^ (n - 1) * 2 ^ (64 - n) = 9223372036854775808 := by rw [← Nat.pow_add, show n - 1 + (64 - n) = 63 by omega]
  have hk : 0 < 2 ^ (64 - n) := Nat.pow_pos (by decide)
  have ew : wrap64 (64 - (n : Int)) = ((64 - n : Nat) : Int) := by rw [w64 (by omega) (by omega)]; omega
  have hy : x % 2 ^ n * 2 ^ (64 - n) + 2 ^ (64 - n) ≤ 18446744073709551616 := by rw [← e64, ← Nat.succ_mul]; exact Nat.mul_le_mul_right _ hv
  unfold lead_Extend.f
  rw [if_neg (by omega), if_neg (by omega), ew, if_pos (by omega), shl_nat, shl_word h2]
  unfold shr
  rw [Int.toNat_natCast, show IntKind.i64.bits = 64 from rfl, Nat.min_eq_left (by omega)]
  have hc : (2 : Int) ^ (64 - n) = ((2 ^ (64 - n) : Nat) : Int) := by simp
  have hkI : (0 : Int) < ((2 ^ (64 - n) : Nat) : Int) := by omega
  rw [hc]
  congr 2
  unfold ext
  by_cases ht : 2 ^ (n - 1) ≤ x % 2 ^ n
  · have h3 : 9223372036854775808 ≤ x % 2 ^ n * 2 ^ (64 - n) := by rw [← e63]; exact Nat.mul_le_mul_right _ ht
    have h4 : wrap64 ((x % 2 ^ n * 2 ^ (64 - n) : Nat) : Int) = (((x % 2 ^ n : Nat) : Int) - ((2 ^ n : Nat) : Int)) * ((2 ^ (64 - n) : Nat) : Int) := by
      have : wrap64 ((x % 2 ^ n * 2 ^ (64 - n) : Nat) : Int) = ((x % 2 ^ n * 2 ^ (64 - n) : Nat) : Int) - 18446744073709551616 := by unfold wrap64; omega
      rw [this, Int.sub_mul, ← Int.natCast_mul, ← Int.natCast_mul, e64]
      rfl
    rw [h4, Int.mul_ediv_cancel _ (by omega), if_pos ht]
  · have h3 : x % 2 ^ n * 2 ^ (64 - n) < 9223372036854775808 := by rw [← e63]; exact Nat.mul_lt_mul_of_pos_right (by omega) hk
    rw [w64 (by omega) (by omega), ← Int.natCast_ediv, Nat.mul_div_cancel _ hk, if_neg ht]
theorem and_one {x : Nat} (hx : x < 18446744073709551616) : Go.bits .and .u64 (x : Int) 1 = ((x % 2 : Nat) : Int) := and_mask (n := 1) hx (by decide)
end Go.Proofs.Ytpdpggndhmnggaa.M
