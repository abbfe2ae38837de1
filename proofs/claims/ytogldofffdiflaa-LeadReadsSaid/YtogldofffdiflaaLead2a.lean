/- What the program's first layer computes, second part: runs, signed numbers, texts; and the reference's. -/
import Derived.Test.YtogldofffdiflaaF3a
import Derived.Test.YtogldofffdiflaaF4a
import Derived.Test.YtogldofffdiflaaLeada
namespace Go.Proofs.Ytogldofffdiflaa.M
open Go.RowKit Go.Proofs.YtogldofffdiflaaW.PrintWords Go.Proofs.YtogldofffdiflaaW.PrintLast Go.Proofs.YtogldofffdiflaaW.PrintMore Go.Proofs.Ytogldofffdiflaa.F
set_option linter.unusedVariables false
set_option linter.unusedSimpArgs false
/-- What is counted: the lowest n bits, or, where the highest of them is a one, their complement. -/
def left (x n : Nat) : Nat := if 2 ^ (n - 1) ≤ x % 2 ^ n then 2 ^ n - 1 - x % 2 ^ n else x % 2 ^ n
/-- How far the highest of n bits runs. -/
def runN (x n : Nat) : Nat := n - blen (left x n)
def topB (x n : Nat) : Bool := decide (2 ^ (n - 1) ≤ x % 2 ^ n)
theorem left_lt {x n : Nat} (hn : 0 < n) : left x n < 2 ^ (n - 1) := by
  have hp : 2 ^ n = 2 ^ (n - 1) * 2 := by rw [← Nat.pow_succ]; congr 1; omega
  have h := Nat.mod_lt x (Nat.pow_pos (n := n) (show 0 < 2 by decide))
  unfold left
  split <;> omega
theorem blen_left {x n : Nat} (hn : 0 < n) : blen (left x n) ≤ n - 1 := blen_le_of (left_lt hn)
theorem shl_word {x n : Nat} (hn : n ≤ 64) : x * 2 ^ (64 - n) % 18446744073709551616 = x % 2 ^ n * 2 ^ (64 - n) := by
  have e : 18446744073709551616 = 2 ^ (64 - n) * 2 ^ n := by rw [← Nat.pow_add, show 64 - n + n = 64 by omega, p64']
  rw [e, Nat.mul_comm x, Nat.mul_mod_mul_left, Nat.mul_comm]
theorem blen_mul {v k : Nat} (hv : 0 < v) : blen (v * 2 ^ k) = blen v + k := by
  have hp : 0 < 2 ^ k := Nat.pow_pos (by decide)
  have := blen_shift (x := v * 2 ^ k) (k := k) (Nat.le_mul_of_pos_left _ hv)
  rw [Nat.mul_div_cancel _ hp] at this
  exact this
theorem blen_mul_add {v k r : Nat} (hv : 0 < v) (hr : r < 2 ^ k) : blen (v * 2 ^ k + r) = blen v + k := by
  have hp : 0 < 2 ^ k := Nat.pow_pos (by decide)
  have h1 : 2 ^ k ≤ v * 2 ^ k + r := Nat.le_trans (Nat.le_mul_of_pos_left _ hv) (Nat.le_add_right _ _)
  have := blen_shift (x := v * 2 ^ k + r) (k := k) h1
  rw [Nat.mul_comm v, Nat.mul_add_div hp, Nat.div_eq_of_lt hr, Nat.add_zero] at this
  rw [Nat.mul_comm v]; exact this
theorem blen_ones (k : Nat) : blen (2 ^ k - 1) = k := by
  have hp : 0 < 2 ^ k := Nat.pow_pos (by decide)
  rcases Nat.eq_zero_or_pos k with h | h
  · subst h; rfl
  · refine blen_unique (by omega) (Or.inr ?_)
    have e : 2 ^ k = 2 * 2 ^ (k - 1) := by rw [← Nat.pow_succ']; congr 1; omega
    have : 0 < 2 ^ (k - 1) := Nat.pow_pos (by decide)
    omega
theorem mn_int (a b : Nat) : mn (a : Int) (b : Int) = ((min a b : Nat) : Int) := by unfold mn; split <;> omega
theorem Run_ev {x n : Nat} (hx : x < 18446744073709551616) (h1 : 0 < n) (h2 : n ≤ 64) : Ev (fun k => lead_Run.f k (x : Int) (n : Int)) (topB x n, (runN x n : Int), none) := by
  have hv := Nat.mod_lt x (Nat.pow_pos (n := n) (show 0 < 2 by decide))
  have e64 : 2 ^ n * 2 ^ (64 - n) = 18446744073709551616 := by rw [← Nat.pow_add, show n + (64 - n) = 64 by omega, p64']
  have hk : 0 < 2 ^ (64 - n) := Nat.pow_pos (by decide)
  have ew : wrap64 (64 - (n : Int)) = ((64 - n : Nat) : Int) := by rw [w64 (by omega) (by omega)]; omega
  have hy : x % 2 ^ n * 2 ^ (64 - n) + 2 ^ (64 - n) ≤ 18446744073709551616 := by rw [← e64, ← Nat.succ_mul]; exact Nat.mul_le_mul_right _ hv
  have hb := blen_left (x := x) h1
  unfold lead_Run.f
  refine Ev.congr (f := fun k => lead_Run.j0 k (x : Int) (n : Int) false) (fun k => ?_) ?_
  · rw [if_neg (by omega)]
    have : decide ((n : Int) > 64) = false := decide_eq_false (by omega)
    rw [this]
  have e63 : 2 ^ (n - 1) * 2 ^ (64 - n) = 9223372036854775808 := by
    rw [← Nat.pow_add, show n - 1 + (64 - n) = 63 by omega]
  have et : (x % 2 ^ n * 2 ^ (64 - n)) / 9223372036854775808 = 1 ↔ topB x n = true := by
    unfold topB
    rw [decide_eq_true_eq]
    constructor
    · intro h
      rcases Nat.lt_or_ge (x % 2 ^ n) (2 ^ (n - 1)) with h3 | h3
      · have : (x % 2 ^ n) * 2 ^ (64 - n) < 9223372036854775808 := by rw [← e63]; exact Nat.mul_lt_mul_of_pos_right h3 hk
        omega
      · exact h3
    · intro h
      have : 9223372036854775808 ≤ x % 2 ^ n * 2 ^ (64 - n) := by rw [← e63]; exact Nat.mul_le_mul_right _ h
      omega
  have etb : ∀ c : Int, (((((x % 2 ^ n * 2 ^ (64 - n) : Nat) : Int)) / 9223372036854775808) == 1) = topB x n := by
    intro _
    rw [Bool.eq_iff_iff, beq_iff_eq, ← et]; omega
  refine Ev.step (f := fun k => (if (((x % 2 ^ n * 2 ^ (64 - n) : Nat) : Int) / 9223372036854775808) = 1 then ((bits_LeadingZeros64.f k ((18446744073709551615 - x % 2 ^ n * 2 ^ (64 - n) : Nat) : Int)).bind fun t => some (topB x n, mn t (n : Int), none)) else ((bits_LeadingZeros64.f k ((x % 2 ^ n * 2 ^ (64 - n) : Nat) : Int)).bind fun t => some (topB x n, mn t (n : Int), none)))) (fun k => ?_) ?_
  · simp only [lead_Run.j0]
    rw [if_neg (by simp), ew, if_pos (by omega), shl_nat, shl_word h2, not_nat (by omega), etb 0]
  · by_cases ht : topB x n = true
    · refine Ev.congr (fun k => if_pos (by have := et.mpr ht; omega)) ?_
      refine Ev.bind (LeadingZeros64_ev (by omega)) ?_
      have hz : min (64 - blen (18446744073709551615 - x % 2 ^ n * 2 ^ (64 - n))) n = runN x n := by
        have hl : left x n = 2 ^ n - 1 - x % 2 ^ n := by unfold left; unfold topB at ht; rw [decide_eq_true_eq] at ht; rw [if_pos ht]
        have e : 18446744073709551615 - x % 2 ^ n * 2 ^ (64 - n) = left x n * 2 ^ (64 - n) + (2 ^ (64 - n) - 1) := by
          rw [hl, Nat.sub_mul, Nat.sub_mul, e64, Nat.one_mul]; omega
        unfold runN
        rw [e]
        rcases Nat.eq_zero_or_pos (left x n) with h | h
        · rw [h, Nat.zero_mul, Nat.zero_add, blen_ones]; simp [blen]; omega
        · rw [blen_mul_add h (by omega)]; omega
      rw [mn_int, hz]
      exact Ev.now _
    · refine Ev.congr (fun k => if_neg (by intro h; exact ht (et.mp (by omega)))) ?_
      refine Ev.bind (LeadingZeros64_ev (by omega)) ?_
      have hz : min (64 - blen (x % 2 ^ n * 2 ^ (64 - n))) n = runN x n := by
        have hl : left x n = x % 2 ^ n := by unfold left; unfold topB at ht; rw [decide_eq_true_eq] at ht; rw [if_neg ht]
        unfold runN
        rw [hl]
        rw [hl] at hb
        rcases Nat.eq_zero_or_pos (x % 2 ^ n) with h | h
        · rw [h, Nat.zero_mul]; simp [blen]; omega
        · rw [blen_mul h]; omega
      rw [mn_int, hz]
      exact Ev.now _
theorem and_one {x : Nat} (hx : x < 18446744073709551616) : Go.bits .and .u64 (x : Int) 1 = ((x % 2 : Nat) : Int) := and_mask (n := 1) hx (by decide)
theorem Show_l0 {x n : Nat} (hx : x < 18446744073709551616) (h2 : n ≤ 64) : ∀ d i : Nat, n - i ≤ d → i ≤ n → Ev (fun k => lead_Show.l0 k (x : Int) (n : Int) (List.replicate (n - i) 0 ++ tx x i) (n : Int) (i : Int)) (txt x n, none) := by
  intro d
  induction d with
  | zero =>
    intro i hd hi
    obtain rfl : i = n := by omega
    refine Ev.step (f := fun k => some (txt x i, none)) (fun k => ?_) (Ev.now _)
    simp only [lead_Show.l0]
    rw [if_neg (by omega), Nat.sub_self]
    rfl
  | succ d ih =>
    intro i hd hi
    by_cases hgo : i < n
    · refine Ev.step (f := fun k => lead_Show.l0 k (x : Int) (n : Int) (List.replicate (n - (i + 1)) 0 ++ tx x (i + 1)) (n : Int) ((i + 1 : Nat) : Int)) (fun k => ?_) (ih (i + 1) (by omega) (by omega))
      have hd2 : x / 2 ^ i < 18446744073709551616 := Nat.lt_of_le_of_lt (Nat.div_le_self _ _) hx
      have e1 : wrap64 (wrap64 ((n : Int) - 1) - (i : Int)) = ((n - 1 - i : Nat) : Int) := by rw [w64 (x := (n : Int) - 1) (by omega) (by omega), w64 (by omega) (by omega)]; omega
      have el : (List.replicate (n - i) (0 : Int) ++ tx x i).length = n := by rw [List.length_append, List.length_replicate, tx_length]; omega
      simp only [lead_Show.l0]
      rw [if_pos (by omega), if_pos (by omega), e1, if_pos (by omega), if_pos (by omega), Int.toNat_natCast, shr_nat hx, and_one hd2, w64 (by omega) (by omega)]
      have ec : ((48 + ((x / 2 ^ i % 2 : Nat) : Int)) % 256) = ((48 + x / 2 ^ i % 2 : Nat) : Int) := by omega
      rw [ec]
      have es : (List.replicate (n - i) (0 : Int) ++ tx x i).set (n - 1 - i) ((48 + x / 2 ^ i % 2 : Nat) : Int) = List.replicate (n - (i + 1)) 0 ++ tx x (i + 1) := by
        rw [show n - i = (n - 1 - i) + 1 by omega, List.replicate_succ', List.append_assoc, List.set_append_right _ _ (by simp), List.length_replicate, Nat.sub_self, show n - (i + 1) = n - 1 - i by omega]
        rfl
      rw [es]
      rfl
    · exact ih i (by omega) hi
theorem Show_ev {x n : Nat} (hx : x < 18446744073709551616) (h2 : n ≤ 64) : Ev (fun k => lead_Show.f k (x : Int) (n : Int)) (txt x n, none) := by
  unfold lead_Show.f
  refine Ev.congr (f := fun k => lead_Show.j0 k (x : Int) (n : Int) false) (fun k => ?_) (Ev.step (f := fun k => lead_Show.l0 k (x : Int) (n : Int) (List.replicate n 0) (n : Int) 0) (fun k => ?_) ?_)
  · rw [if_neg (by omega)]
    have : decide ((n : Int) > 64) = false := decide_eq_false (by omega)
    rw [this]
  · simp only [lead_Show.j0]
    rw [if_neg (by simp), if_pos (by omega), Int.toNat_natCast, if_pos (by omega)]
    simp only [Option.bind_some, List.length_replicate]
  · have := Show_l0 hx h2 _ 0 (Nat.le_refl _) (by omega)
    rw [show tx x 0 = [] from rfl, List.append_nil, Nat.sub_zero] at this
    exact this
theorem code_nat (n : Int) (h0 : 0 < n) (h1 : n ≤ 12) : vernierlaw00_Code.f (some n) = some n := by
  have : n = 1 ∨ n = 2 ∨ n = 3 ∨ n = 4 ∨ n = 5 ∨ n = 6 ∨ n = 7 ∨ n = 8 ∨ n = 9 ∨ n = 10 ∨ n = 11 ∨ n = 12 := by omega
  rcases this with rfl | rfl | rfl | rfl | rfl | rfl | rfl | rfl | rfl | rfl | rfl | rfl <;> rfl
theorem code0 : vernierlaw00_Code.f none = some 0 := rfl
theorem up01 : Ev (fun k => vernierlaw01_up.f k) true := by
  have e1 := Run_ev (x := 14) (n := 4) (by decide) (by decide) (by decide)
  have e2 := Show_ev (x := 5) (n := 4) (by decide) (by decide)
  have t1 : topB 14 4 = true := by decide
  have t2 : runN 14 4 = 3 := by decide
  have t3 : (txt 5 4).toList = [48, 49, 48, 49] := by decide +kernel
  rw [t1, t2] at e1
  unfold vernierlaw01_up.f
  refine Ev.bind e1 (Ev.bind e2 ?_)
  simp only [↓reduceIte, t3, Option.isNone_none]
  exact Ev.now _
end Go.Proofs.Ytogldofffdiflaa.M
