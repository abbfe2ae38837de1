/- What the program's first layer computes, .. -/
import Derived.Test.YtjlaijaadclghaaF4Q
import Derived.Test.YtjlaijaadclghaaLeadQ
namespace Go.Proofs.Ytjlaijaadclghaa.M
open RowKit YtjlaijaadclghaaW PrintWords PrintLast PrintMore F
set_option linter.all false
def left (x n : Nat) : Nat := if 2 ^ (n - 1) ≤ x % 2 ^ n then 2 ^ n - 1 - x % 2 ^ n else x % 2 ^ n
def runN (x n : Nat) : Nat := n - blen (left x n)
def topB (x n : Nat) : Bool := decide (2 ^ (n - 1) ≤ x % 2 ^ n)
theorem left_lt {x n : Nat} (hn : 0 < n) : left x n < 2 ^ (n - 1) := by
 have hp : 2 ^ n = 2 ^ (n - 1) * 2 := by rw [← Nat.pow_succ]; congr 1; omega
 have h := Nat.mod_lt x (Nat.pow_pos (n := n) (show 0 < 2 by decide))
 unfold left
 split <;> omega
theorem blen_left {x n : Nat} (hn : 0 < n) : blen (left x n) ≤ n - 1 := blen_le_of (left_lt hn)
theorem runN_pos {x n : Nat} (hn : 0 < n) : 0 < runN x n := by have := blen_left (x := x) hn; unfold runN; omega
theorem runN_le (x n : Nat) : runN x n ≤ n := by unfold runN; omega
theorem low_bit {x n m : Nat} (h : m < n) : x % 2 ^ n / 2 ^ m % 2 = x / 2 ^ m % 2 := by
 have e : 2 ^ n = 2 ^ m * (2 * 2 ^ (n - m - 1)) := by rw [← Nat.pow_succ', ← Nat.pow_add]; congr 1; omega
 rw [e, Nat.mod_mul_right_div_self, Nat.mod_mul_right_mod]
theorem comp_bit {v n m : Nat} (hv : v < 2 ^ n) (h : m < n) : (2 ^ n - 1 - v) / 2 ^ m % 2 = 1 - v / 2 ^ m % 2 := by
 have e : 2 ^ n = 2 ^ m * (2 * 2 ^ (n - m - 1)) := by rw [← Nat.pow_succ', ← Nat.pow_add]; congr 1; omega
 have hp : 0 < 2 ^ m := Nat.pow_pos (by decide)
 have d := Nat.div_add_mod v (2 ^ m)
 have hr : v % 2 ^ m < 2 ^ m := Nat.mod_lt _ hp
 have hq : v / 2 ^ m < 2 * 2 ^ (n - m - 1) := by rw [Nat.div_lt_iff_lt_mul hp, Nat.mul_comm, ← e]; exact hv
 generalize v / 2 ^ m = q at *
 generalize v % 2 ^ m = r at *
 have e2 : 2 ^ n - 1 - v = 2 ^ m * (2 * 2 ^ (n - m - 1) - 1 - q) + (2 ^ m - 1 - r) := by
  obtain ⟨t, ht⟩ : ∃ t, 2 * 2 ^ (n - m - 1) = q + t + 1 := ⟨2 * 2 ^ (n - m - 1) - q - 1, by omega⟩
  have : 2 * 2 ^ (n - m - 1) - 1 - q = t := by omega
  rw [this, e, ht, ← d]
  have : 2 ^ m * (q + t + 1) = 2 ^ m * q + 2 ^ m * t + 2 ^ m := by grind
  omega
 rw [e2, Nat.mul_add_div hp, Nat.div_eq_of_lt (by omega)]
 omega
theorem run_same {x n j : Nat} (hn : 0 < n) (hj : j < runN x n) : x / 2 ^ (n - 1 - j) % 2 = x / 2 ^ (n - 1) % 2 := by
 have hl := lt_blen (left x n)
 have hb := blen_left (x := x) hn
 have hjn : j < n := Nat.lt_of_lt_of_le hj (runN_le x n)
 have hz : ∀ m, n - 1 - j ≤ m → left x n / 2 ^ m = 0 := fun m hm => Nat.div_eq_of_lt (Nat.lt_of_lt_of_le hl (Nat.pow_le_pow_right (by decide) (by unfold runN at hj; omega)))
 have z1 := hz (n - 1 - j) (Nat.le_refl _)
 have z2 := hz (n - 1) (by omega)
 have hv := Nat.mod_lt x (Nat.pow_pos (n := n) (show 0 < 2 by decide))
 rw [← low_bit (n := n) (show n - 1 - j < n by omega), ← low_bit (n := n) (show n - 1 < n by omega)]
 unfold left at z1 z2
 split at z1
 ·
  rename_i h
  rw [if_pos h] at z2
  have c1 := comp_bit hv (show n - 1 - j < n by omega)
  have c2 := comp_bit hv (show n - 1 < n by omega)
  rw [z1] at c1; rw [z2] at c2
  omega
 ·
  rename_i h
  rw [if_neg h] at z2
  rw [z1, z2]
theorem run_stop {x n : Nat} (hn : 0 < n) (hj : runN x n < n) : x / 2 ^ (n - 1 - runN x n) % 2 ≠ x / 2 ^ (n - 1) % 2 := by
 have hb := blen_left (x := x) hn
 have hpos : 0 < left x n := by
  rcases Nat.eq_zero_or_pos (left x n) with h | h
  ·
   unfold runN at hj; rw [h] at hj; simp [blen] at hj
  ·
   exact h
 have h1 := blen_le hpos
 have h2 := lt_blen (left x n)
 have h3 := blen_pos hpos
 have em : n - 1 - runN x n = blen (left x n) - 1 := by unfold runN; omega
 have one : left x n / 2 ^ (blen (left x n) - 1) = 1 := by
  have hp : 0 < 2 ^ (blen (left x n) - 1) := Nat.pow_pos (by decide)
  have e : 2 ^ blen (left x n) = 2 * 2 ^ (blen (left x n) - 1) := by rw [← Nat.pow_succ']; congr 1; omega
  have l1 : 1 ≤ left x n / 2 ^ (blen (left x n) - 1) := Nat.div_pos h1 hp
  have l2 : left x n / 2 ^ (blen (left x n) - 1) < 2 := by rw [Nat.div_lt_iff_lt_mul hp, ← e]; exact h2
  omega
 have zero : left x n / 2 ^ (n - 1) = 0 := Nat.div_eq_of_lt (left_lt hn)
 have hv := Nat.mod_lt x (Nat.pow_pos (n := n) (show 0 < 2 by decide))
 rw [em, ← low_bit (n := n) (show blen (left x n) - 1 < n by omega), ← low_bit (n := n) (show n - 1 < n by omega)]
 generalize blen (left x n) - 1 = m at *
 have hm : m < n := by omega
 unfold left at one zero
 split at one
 ·
  rename_i h
  rw [if_pos h] at zero
  have c1 := comp_bit hv hm
  have c2 := comp_bit hv (show n - 1 < n by omega)
  rw [one] at c1; rw [zero] at c2
  omega
 ·
  rename_i h
  rw [if_neg h] at zero
  rw [one, zero]; decide
theorem top_bit {x n : Nat} (hn : 0 < n) : x / 2 ^ (n - 1) % 2 = if topB x n = true then 1 else 0 := by
 have hv := Nat.mod_lt x (Nat.pow_pos (n := n) (show 0 < 2 by decide))
 have hp : 0 < 2 ^ (n - 1) := Nat.pow_pos (by decide)
 have e : 2 ^ n = 2 * 2 ^ (n - 1) := by rw [← Nat.pow_succ']; congr 1; omega
 rw [← low_bit (n := n) (show n - 1 < n by omega)]
 unfold topB
 by_cases h : 2 ^ (n - 1) ≤ x % 2 ^ n
 ·
  rw [if_pos (decide_eq_true h)]
  have l1 : 1 ≤ x % 2 ^ n / 2 ^ (n - 1) := Nat.div_pos h hp
  have l2 : x % 2 ^ n / 2 ^ (n - 1) < 2 := by rw [Nat.div_lt_iff_lt_mul hp, ← e]; exact hv
  omega
 ·
  rw [if_neg (by rw [decide_eq_true_eq]; exact h), Nat.div_eq_of_lt (by omega)]
theorem top_sign {x n : Nat} (hn : 0 < n) : ((bt (txt x n) 0) == 49) = topB x n := by
 have h := txt_bt (x := x) (n := n) (j := 0) hn
 rw [show ((0 : Nat) : Int) = 0 from rfl] at h
 rw [h, Nat.sub_zero, top_bit hn]
 cases topB x n <;> rfl
theorem shl_word {x n : Nat} (hn : n ≤ 64) : x * 2 ^ (64 - n) % 18446744073709551616 = x % 2 ^ n * 2 ^ (64 - n) := by
 have e : 18446744073709551616 = 2 ^ (64 - n) * 2 ^ n := by rw [← Nat.pow_add, show 64 - n + n = 64 by omega, p64']
 rw [e, Nat.mul_comm x, Nat.mul_mod_mul_left, Nat.mul_comm]
theorem blen_mul {v k : Nat} (hv : 0 < v) : blen (v * 2 ^ k) = blen v + k := by
 have hp : 0 < 2 ^ k := Nat.pow_pos (by decide)
 have := blen_shift (x := v * 2 ^ k) (k := k) (Nat.le_mul_of_pos_left _ hv)
 rw [Nat.mul_div_cancel _ hp] at this
 exact this
theorem blen_mul_add {v k r : Nat} (hv : 0 < v) (hr : r < 2 ^ k) : blen (v * 2 ^ k + r) = blen v + k := by
 have hp : 0 < 2 ^ k := Nat.pow_pos (by decide)
 have h1 : 2 ^ k ≤ v * 2 ^ k + r := Nat.le_trans (Nat.le_mul_of_pos_left _ hv) (Nat.le_add_right _ _)
 have := blen_shift (x := v * 2 ^ k + r) (k := k) h1
 rw [Nat.mul_comm v, Nat.mul_add_div hp, Nat.div_eq_of_lt hr, Nat.add_zero] at this
 rw [Nat.mul_comm v]; exact this
theorem blen_ones (k : Nat) : blen (2 ^ k - 1) = k := by
 have hp : 0 < 2 ^ k := Nat.pow_pos (by decide)
 rcases Nat.eq_zero_or_pos k with h | h
 ·
  subst h; rfl
 ·
  refine blen_unique (by omega) (Or.inr ?_)
  have e : 2 ^ k = 2 * 2 ^ (k - 1) := by rw [← Nat.pow_succ']; congr 1; omega
  have : 0 < 2 ^ (k - 1) := Nat.pow_pos (by decide)
  omega
theorem mn_int (a b : Nat) : mn (a : Int) (b : Int) = ((min a b : Nat) : Int) := by unfold mn; split <;> omega
theorem Run_ev {x n : Nat} (hx : x < 18446744073709551616) (h1 : 0 < n) (h2 : n ≤ 64) : Ev (fun k => lead_Run.f k (x : Int) (n : Int)) (topB x n, (runN x n : Int), none) := by
 have hv := Nat.mod_lt x (Nat.pow_pos (n := n) (show 0 < 2 by decide))
 have e64 : 2 ^ n * 2 ^ (64 - n) = 18446744073709551616 := by rw [← Nat.pow_add, show n + (64 - n) = 64 by omega, p64']
 have hk : 0 < 2 ^ (64 - n) := Nat.pow_pos (by decide)
 have ew : wrap64 (64 - (n : Int)) = ((64 - n : Nat) : Int) := by rw [w64 (by omega) (by omega)]; omega
 have hy : x % 2 ^ n * 2 ^ (64 - n) + 2 ^ (64 - n) ≤ 18446744073709551616 := by rw [← e64, ← Nat.succ_mul]; exact Nat.mul_le_mul_right _ hv
 have hb := blen_left (x := x) h1
 unfold lead_Run.f
 refine Ev.congr (f := fun k => lead_Run.j0 k (x : Int) (n : Int) false) (fun k => ?_) ?_
 ·
  rw [if_neg (by omega)]
  have : decide ((n : Int) > 64) = false := decide_eq_false (by omega)
  rw [this]
 have e63 : 2 ^ (n - 1) * 2 ^ (64 - n) = 9223372036854775808 := by
  rw [← Nat.pow_add, show n - 1 + (64 - n) = 63 by omega]
 have et : (x % 2 ^ n * 2 ^ (64 - n)) / 9223372036854775808 = 1 ↔ topB x n = true := by
  unfold topB
  rw [decide_eq_true_eq]
  constructor
  ·
   intro h
   rcases Nat.lt_or_ge (x % 2 ^ n) (2 ^ (n - 1)) with h3 | h3
   ·
    have : (x % 2 ^ n) * 2 ^ (64 - n) < 9223372036854775808 := by rw [← e63]; exact Nat.mul_lt_mul_of_pos_right h3 hk
    omega
   ·
    exact h3
  ·
   intro h
   have : 9223372036854775808 ≤ x % 2 ^ n * 2 ^ (64 - n) := by rw [← e63]; exact Nat.mul_le_mul_right _ h
   omega
 have etb : ∀ c : Int, (((((x % 2 ^ n * 2 ^ (64 - n) : Nat) : Int)) / 9223372036854775808) == 1) = topB x n := by
  intro _
  rw [Bool.eq_iff_iff, beq_iff_eq, ← et]; omega
 refine Ev.step (f := fun k => (if (((x % 2 ^ n * 2 ^ (64 - n) : Nat) : Int) / 9223372036854775808) = 1 then ((bits_LeadingZeros64.f k ((18446744073709551615 - x % 2 ^ n * 2 ^ (64 - n) : Nat) : Int)).bind fun t => some (topB x n, mn t (n : Int), none)) else ((bits_LeadingZeros64.f k ((x % 2 ^ n * 2 ^ (64 - n) : Nat) : Int)).bind fun t => some (topB x n, mn t (n : Int), none)))) (fun k => ?_) ?_
 ·
  simp only [lead_Run.j0]
  rw [if_neg (by simp), ew, if_pos (by omega), shl_nat, shl_word h2, not_nat (by omega), etb 0]
 ·
  by_cases ht : topB x n = true
  ·
   refine Ev.congr (fun k => if_pos (by have := et.mpr ht; omega)) ?_
   refine Ev.bind (LeadingZeros64_ev (by omega)) ?_
   have hz : min (64 - blen (18446744073709551615 - x % 2 ^ n * 2 ^ (64 - n))) n = runN x n := by
    have hl : left x n = 2 ^ n - 1 - x % 2 ^ n := by unfold left; unfold topB at ht; rw [decide_eq_true_eq] at ht; rw [if_pos ht]
    have e : 18446744073709551615 - x % 2 ^ n * 2 ^ (64 - n) = left x n * 2 ^ (64 - n) + (2 ^ (64 - n) - 1) := by
     rw [hl, Nat.sub_mul, Nat.sub_mul, e64, Nat.one_mul]; omega
    unfold runN
    rw [e]
    rcases Nat.eq_zero_or_pos (left x n) with h | h
    ·
     rw [h, Nat.zero_mul, Nat.zero_add, blen_ones]; simp [blen]; omega
    ·
     rw [blen_mul_add h (by omega)]; omega
   rw [mn_int, hz]
   exact Ev.now _
  ·
   refine Ev.congr (fun k => if_neg (by intro h; exact ht (et.mp (by omega)))) ?_
   refine Ev.bind (LeadingZeros64_ev (by omega)) ?_
   have hz : min (64 - blen (x % 2 ^ n * 2 ^ (64 - n))) n = runN x n := by
    have hl : left x n = x % 2 ^ n := by unfold left; unfold topB at ht; rw [decide_eq_true_eq] at ht; rw [if_neg ht]
    unfold runN
    rw [hl]
    rw [hl] at hb
    rcases Nat.eq_zero_or_pos (x % 2 ^ n) with h | h
    ·
     rw [h, Nat.zero_mul]; simp [blen]; omega
    ·
     rw [blen_mul h]; omega
   rw [mn_int, hz]
   exact Ev.now _
theorem bt_first {x n : Nat} (hn : 0 < n) : bt (txt x n) 0 = ((48 + x / 2 ^ (n - 1) % 2 : Nat) : Int) := txt_bt (x := x) (n := n) (j := 0) hn
def ext (x n : Nat) : Int := if 2 ^ (n - 1) ≤ x % 2 ^ n then (x % 2 ^ n : Nat) - ((2 ^ n : Nat) : Int) else ((x % 2 ^ n : Nat) : Int)
theorem Extend_eq {x n : Nat} (hx : x < 18446744073709551616) (h1 : 0 < n) (h2 : n ≤ 64) : lead_Extend.f (x : Int) (n : Int) = some (ext x n, none) := by
 have hv := Nat.mod_lt x (Nat.pow_pos (n := n) (show 0 < 2 by decide))
 have e64 : 2 ^ n * 2 ^ (64 - n) = 18446744073709551616 := by rw [← Nat.pow_add, show n + (64 - n) = 64 by omega, p64']
 have e63 : 2 ^ (n - 1) * 2 ^ (64 - n) = 9223372036854775808 := by rw [← Nat.pow_add, show n - 1 + (64 - n) = 63 by omega]
 have hk : 0 < 2 ^ (64 - n) := Nat.pow_pos (by decide)
 have ew : wrap64 (64 - (n : Int)) = ((64 - n : Nat) : Int) := by rw [w64 (by omega) (by omega)]; omega
 have hy : x % 2 ^ n * 2 ^ (64 - n) + 2 ^ (64 - n) ≤ 18446744073709551616 := by rw [← e64, ← Nat.succ_mul]; exact Nat.mul_le_mul_right _ hv
 unfold lead_Extend.f
 rw [if_neg (by omega), if_neg (by omega), ew, if_pos (by omega), shl_nat, shl_word h2]
 unfold shr
 rw [Int.toNat_natCast, show IntKind.i64.bits = 64 from rfl, Nat.min_eq_left (by omega)]
 have hc : (2 : Int) ^ (64 - n) = ((2 ^ (64 - n) : Nat) : Int) := by simp
 have hkI : (0 : Int) < ((2 ^ (64 - n) : Nat) : Int) := by omega
 rw [hc]
 congr 2
 unfold ext
 by_cases ht : 2 ^ (n - 1) ≤ x % 2 ^ n
 ·
  have h3 : 9223372036854775808 ≤ x % 2 ^ n * 2 ^ (64 - n) := by rw [← e63]; exact Nat.mul_le_mul_right _ ht
  have h4 : wrap64 ((x % 2 ^ n * 2 ^ (64 - n) : Nat) : Int) = (((x % 2 ^ n : Nat) : Int) - ((2 ^ n : Nat) : Int)) * ((2 ^ (64 - n) : Nat) : Int) := by
   have : wrap64 ((x % 2 ^ n * 2 ^ (64 - n) : Nat) : Int) = ((x % 2 ^ n * 2 ^ (64 - n) : Nat) : Int) - 18446744073709551616 := by unfold wrap64; omega
   rw [this, Int.sub_mul, ← Int.natCast_mul, ← Int.natCast_mul, e64]
   rfl
  rw [h4, Int.mul_ediv_cancel _ (by omega), if_pos ht]
 ·
  have h3 : x % 2 ^ n * 2 ^ (64 - n) < 9223372036854775808 := by rw [← e63]; exact Nat.mul_lt_mul_of_pos_right (by omega) hk
  rw [w64 (by omega) (by omega), ← Int.natCast_ediv, Nat.mul_div_cancel _ hk, if_neg ht]
theorem and_one {x : Nat} (hx : x < 18446744073709551616) : Go.bits .and .u64 (x : Int) 1 = ((x % 2 : Nat) : Int) := and_mask (n := 1) hx (by decide)
end Go.Proofs.Ytjlaijaadclghaa.M

namespace Go.Proofs.Ytjlaijaadclghaa.M
set_option linter.all false
theorem under_math {V len b m : Nat} (hV : V < 2 ^ len) (hlen : 128 ≤ len) (hm : m ≤ 128) (hb : b < 2 ^ m) :
  (b * 2 ^ len + V) / 2 ^ (len + m - 128) = b * 2 ^ (128 - m) + V / 2 ^ (len - 128) / 2 ^ m ∧
  ((b * 2 ^ len + V) % 2 ^ (len + m - 128) ≠ 0 ↔ V % 2 ^ (len - 128) ≠ 0 ∨ V / 2 ^ (len - 128) % 2 ^ m ≠ 0) := by
 have p1 : 0 < 2 ^ (len + m - 128) := Nat.pow_pos (by decide)
 have p2 : 0 < 2 ^ (len - 128) := Nat.pow_pos (by decide)
 have p3 : 0 < 2 ^ m := Nat.pow_pos (by decide)
 have e1 : 2 ^ (len + m - 128) = 2 ^ (len - 128) * 2 ^ m := by rw [show len + m - 128 = (len - 128) + m by omega, Nat.pow_add]
 have e2 : 2 ^ len = 2 ^ (len + m - 128) * 2 ^ (128 - m) := by rw [← Nat.pow_add, show len + m - 128 + (128 - m) = len by omega]
 have e3 : b * 2 ^ len + V = 2 ^ (len + m - 128) * (b * 2 ^ (128 - m)) + V := by rw [e2]; grind
 constructor
 ·
  rw [e3, Nat.mul_add_div p1, e1, Nat.div_div_eq_div_mul]
 ·
  rw [e3, Nat.mul_add_mod, e1, Nat.mod_mul]
  generalize V % 2 ^ (len - 128) = u
  generalize V / 2 ^ (len - 128) % 2 ^ m = v
  generalize 2 ^ (len - 128) = c at *
  constructor
  ·
   intro h
   rcases Nat.eq_zero_or_pos u with h1 | h1
   ·
    rcases Nat.eq_zero_or_pos v with h2 | h2
    ·
     subst h1; subst h2; simp at h
    ·
     right; omega
   ·
    left; omega
  ·
   rintro (h | h)
   ·
    intro hh; have := Nat.le_add_right u (c * v); omega
   ·
    intro hh
    have : 0 < c * v := Nat.mul_pos p2 (Nat.pos_of_ne_zero h)
    omega
def leftN (x half : Nat) (rest : Bool) : Nat := if half < x ∨ (x = half ∧ rest = true) then 3 else if x = half then 2 else if 0 < x ∨ rest = true then 1 else 0
theorem cut_math {X L c : Nat} (hL : 128 ≤ L) (hc : c < 128) (rest : Bool) :
  X / 2 ^ (L - 128) / 2 ^ (128 - c) = X / 2 ^ (L - c) ∧
  leftN (X / 2 ^ (L - 128) % 2 ^ (128 - c)) (2 ^ (127 - c)) (rest || decide (X % 2 ^ (L - 128) ≠ 0)) = leftN (X % 2 ^ (L - c)) (2 ^ (L - c - 1)) rest := by
 have p1 : 0 < 2 ^ (L - 128) := Nat.pow_pos (by decide)
 have e1 : 2 ^ (L - c) = 2 ^ (L - 128) * 2 ^ (128 - c) := by rw [← Nat.pow_add, show L - 128 + (128 - c) = L - c by omega]
 have e2 : 2 ^ (L - c - 1) = 2 ^ (L - 128) * 2 ^ (127 - c) := by rw [← Nat.pow_add, show L - 128 + (127 - c) = L - c - 1 by omega]
 constructor
 ·
  rw [Nat.div_div_eq_div_mul, ← e1]
 ·
  rw [e1, e2, Nat.mod_mul]
  have hu := Nat.mod_lt X p1
  generalize X % 2 ^ (L - 128) = u at *
  generalize X / 2 ^ (L - 128) % 2 ^ (128 - c) = v
  generalize 2 ^ (127 - c) = h
  generalize 2 ^ (L - 128) = g at *
  have key : ∀ a b : Nat, a < b → g * a + g ≤ g * b := fun a b hab => by rw [← Nat.mul_succ]; exact Nat.mul_le_mul_left _ hab
  unfold leftN
  rcases Nat.lt_trichotomy v h with hv | hv | hv
  ·
   have k := key v h hv
   have n1 : ¬ (h < v ∨ (v = h ∧ (rest || decide (u ≠ 0)) = true)) := by omega
   have n2 : ¬ (g * h < u + g * v ∨ (u + g * v = g * h ∧ rest = true)) := by omega
   rw [if_neg n1, if_neg n2, if_neg (show ¬ v = h by omega), if_neg (show ¬ u + g * v = g * h by omega)]
   rcases Nat.eq_zero_or_pos u with hu0 | hu0
   ·
    subst hu0
    rcases Nat.eq_zero_or_pos v with hv0 | hv0
    ·
     subst hv0; simp
    ·
     have : 0 < g * v := Nat.mul_pos p1 hv0
     rw [if_pos (Or.inl hv0), if_pos (Or.inl (by omega))]
   ·
    rw [if_pos (Or.inr (by simp; right; omega)), if_pos (Or.inl (by omega))]
  ·
   subst hv
   rcases Nat.eq_zero_or_pos u with hu0 | hu0
   ·
    subst hu0
    cases rest <;> simp
   ·
    rw [if_pos (Or.inr ⟨rfl, by simp; right; omega⟩), if_pos (Or.inl (by omega))]
  ·
   have k := key h v hv
   rw [if_pos (Or.inl hv), if_pos (Or.inl (by omega))]
end Go.Proofs.Ytjlaijaadclghaa.M
