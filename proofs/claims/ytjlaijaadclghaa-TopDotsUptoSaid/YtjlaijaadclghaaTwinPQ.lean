/- What the program's second layer computes, at .. -/
import Derived.Test.YtjlaijaadclghaaF5Q
import Derived.Test.YtjlaijaadclghaaF8Q
import Derived.Test.YtjlaijaadclghaaWordsQ
import Derived.Test.YtjlaijaadclghaaR02Q
namespace Go.Proofs.Ytjlaijaadclghaa.M
open RowKit YtjlaijaadclghaaW PrintWords PrintLast PrintMore F
set_option linter.all false
theorem and32 {a : Nat} (ha : a < 18446744073709551616) : Go.bits .and .u64 (a : Int) 4294967295 = ((a % 4294967296 : Nat) : Int) := and_mask (n := 32) ha (by decide)
theorem Mul64_eq {x y : Nat} (hx : x < 18446744073709551616) (hy : y < 18446744073709551616) : bits_Mul64.f (x : Int) (y : Int) = some (hi (x * y), lo (x * y)) := by
 unfold bits_Mul64.f
 have ex := Nat.div_add_mod x 4294967296
 have ey := Nat.div_add_mod y 4294967296
 have c1 : ((x : Int) / 4294967296) = ((x / 4294967296 : Nat) : Int) := rfl
 have c2 : ((y : Int) / 4294967296) = ((y / 4294967296 : Nat) : Int) := rfl
 have b1 : x / 4294967296 ≤ 4294967295 := by omega
 have b2 : y / 4294967296 ≤ 4294967295 := by omega
 have b3 : x % 4294967296 ≤ 4294967295 := by omega
 have b4 : y % 4294967296 ≤ 4294967295 := by omega
 rw [and32 hx, and32 hy, c1, c2]
 clear c1 c2
 generalize x / 4294967296 = x1 at *
 generalize y / 4294967296 = y1 at *
 generalize x % 4294967296 = x0 at *
 generalize y % 4294967296 = y0 at *
 have p := Nat.mul_le_mul b1 b2
 have q := Nat.mul_le_mul b1 b4
 have r := Nat.mul_le_mul b3 b2
 have s := Nat.mul_le_mul b3 b4
 have exy : x * y = x1 * y1 * 18446744073709551616 + (x1 * y0 + x0 * y1) * 4294967296 + x0 * y0 := by rw [← ex, ← ey]; grind
 have m1 : (x1 : Int) * (y1 : Int) = ((x1 * y1 : Nat) : Int) := by simp
 have m2 : (x1 : Int) * (y0 : Int) = ((x1 * y0 : Nat) : Int) := by simp
 have m3 : (x0 : Int) * (y1 : Int) = ((x0 * y1 : Nat) : Int) := by simp
 have m4 : (x0 : Int) * (y0 : Int) = ((x0 * y0 : Nat) : Int) := by simp
 have m5 : (x : Int) * (y : Int) = ((x * y : Nat) : Int) := by simp
 rw [m1, m2, m3, m4, m5]
 generalize x * y = z at *
 generalize x1 * y1 = P at *
 generalize x1 * y0 = Q at *
 generalize x0 * y1 = R at *
 generalize x0 * y0 = S at *
 clear m1 m2 m3 m4 m5 ex ey hx hy
 rw [u64s (x := (S : Int)) (by omega) (by omega), u64s (x := (Q : Int)) (by omega) (by omega), u64s (x := (R : Int)) (by omega) (by omega), u64s (x := (P : Int)) (by omega) (by omega)]
 have t : IntKind.u64.wrap ((Q : Int) + (S : Int) / 4294967296) = ((Q + S / 4294967296 : Nat) : Int) := by rw [u64s (by omega) (by omega)]; omega
 rw [t, and32 (by omega), u64s (x := (((Q + S / 4294967296) % 4294967296 : Nat) : Int) + (R : Int)) (by omega) (by omega), u64s (x := (P : Int) + ((Q + S / 4294967296 : Nat) : Int) / 4294967296) (by omega) (by omega), u64s (by omega) (by omega), u64w]
 subst exy
 unfold hi lo
 congr 2
 omega
theorem pow_pair {k : Nat} (hk : k ≤ 64) : 2 ^ k * 2 ^ (64 - k) = 18446744073709551616 := by
 rw [← Nat.pow_add, show k + (64 - k) = 64 by omega, p64]
theorem shl_parts {ah al P Q : Nat} (hl : al < 18446744073709551616) (hP : 0 < P) (hQ : 0 < Q) (hPQ : P * Q = 18446744073709551616) :
  ah * P % 18446744073709551616 + al / Q = (ah * 18446744073709551616 + al) * P / 18446744073709551616 % 18446744073709551616 ∧ ah * P % 18446744073709551616 % P = 0 ∧ al / Q < P ∧ al * P % 18446744073709551616 = (ah * 18446744073709551616 + al) * P % 18446744073709551616 := by
 have e1 : al * P / 18446744073709551616 = al / Q := by rw [← hPQ, Nat.mul_comm al P]; exact Nat.mul_div_mul_left _ _ hP
 have e2 : al / Q < P := by rw [Nat.div_lt_iff_lt_mul hQ, hPQ]; exact hl
 have e3 : (ah * 18446744073709551616 + al) * P = 18446744073709551616 * (ah * P) + al * P := by grind
 have e4 : ah * P % 18446744073709551616 = P * (ah % Q) := by rw [← hPQ, Nat.mul_comm ah P]; exact Nat.mul_mod_mul_left ..
 have e5 : ah % Q < Q := Nat.mod_lt _ hQ
 have e6 : P * (ah % Q) + P ≤ P * Q := by rw [← Nat.mul_succ]; exact Nat.mul_le_mul_left _ e5
 refine ⟨?_, ?_, e2, ?_⟩
 ·
  rw [e3, Nat.mul_add_div (by decide), e1]
  have e7 : ah * P % 18446744073709551616 + al / Q < 18446744073709551616 := by rw [e4]; omega
  rw [Nat.add_mod, Nat.mod_eq_of_lt (show al / Q < 18446744073709551616 by omega)]
  exact (Nat.mod_eq_of_lt e7).symm
 ·
  rw [e4]; exact Nat.mul_mod_right ..
 ·
  rw [e3]; exact (Nat.mul_add_mod ..).symm
theorem shl_eq {ah al : Nat} (h0 : ah < 18446744073709551616) (h1 : al < 18446744073709551616) {k : Nat} (hk : k ≤ 128) : twin_shl.f (ah : Int) (al : Int) (k : Int) = some (hi (tw ah al * 2 ^ k), lo (tw ah al * 2 ^ k)) := by
 unfold twin_shl.f
 by_cases h : 64 ≤ k
 ·
  have hp : 2 ^ k = 18446744073709551616 * 2 ^ (k - 64) := by rw [← p64, ← Nat.pow_add]; congr 1; omega
  rw [if_pos (by omega), w64 (by omega) (by omega), if_pos (by omega), show (k : Int) - 64 = ((k - 64 : Nat) : Int) by omega, shl_nat]
  unfold hi lo tw
  have e3 : (ah * 18446744073709551616 + al) * 2 ^ k = 18446744073709551616 * (18446744073709551616 * (ah * 2 ^ (k - 64)) + al * 2 ^ (k - 64)) := by rw [hp]; grind
  rw [e3, Nat.mul_div_cancel_left _ (by decide), Nat.mul_add_mod, Nat.mul_mod_right]
  rfl
 ·
  have hp := pow_pair (show k ≤ 64 by omega)
  obtain ⟨e1, e2, e3, e4⟩ := shl_parts (ah := ah) h1 (Nat.pow_pos (n := k) (by decide)) (Nat.pow_pos (by decide)) hp
  rw [if_neg (by omega), if_pos (by omega), w64 (by omega) (by omega), if_pos (by omega), show 64 - (k : Int) = ((64 - k : Nat) : Int) by omega, shl_nat, shl_nat, shr_nat h1, or_add (n := k) (Nat.mod_lt _ (by decide)) (by omega) e2 e3, e1, e4]
  rfl
theorem shr_eq {ah al : Nat} (h0 : ah < 18446744073709551616) (h1 : al < 18446744073709551616) {k : Nat} (hk : k ≤ 128) : twin_shr.f (ah : Int) (al : Int) (k : Int) = some (hi (tw ah al / 2 ^ k), lo (tw ah al / 2 ^ k)) := by
 unfold twin_shr.f
 by_cases h : 64 ≤ k
 ·
  have hp : 2 ^ k = 18446744073709551616 * 2 ^ (k - 64) := by rw [← p64, ← Nat.pow_add]; congr 1; omega
  rw [if_pos (by omega), w64 (by omega) (by omega), if_pos (by omega), show (k : Int) - 64 = ((k - 64 : Nat) : Int) by omega, shr_nat h0]
  unfold hi lo tw
  have e3 : (ah * 18446744073709551616 + al) / 2 ^ k = ah / 2 ^ (k - 64) := by rw [hp, ← Nat.div_div_eq_div_mul]; congr 1; omega
  have e4 : ah / 2 ^ (k - 64) ≤ ah := Nat.div_le_self _ _
  have e5 := Nat.lt_of_le_of_lt e4 h0
  rw [e3, Nat.div_eq_of_lt e5, Nat.mod_eq_of_lt e5]
  rfl
 ·
  have hp := pow_pair (show k ≤ 64 by omega)
  have hP : 0 < 2 ^ k := Nat.pow_pos (by decide)
  have hQ : 0 < 2 ^ (64 - k) := Nat.pow_pos (by decide)
  rw [if_neg (by omega), if_pos (by omega), w64 (by omega) (by omega), if_pos (by omega), show 64 - (k : Int) = ((64 - k : Nat) : Int) by omega, shr_nat h0, shr_nat h1, shl_nat]
  have hor : Go.bits .or .u64 ((al / 2 ^ k : Nat) : Int) ((ah * 2 ^ (64 - k) % 18446744073709551616 : Nat) : Int) = ((ah * 2 ^ (64 - k) % 18446744073709551616 + al / 2 ^ k : Nat) : Int) := by
   have c : Go.bits .or .u64 ((al / 2 ^ k : Nat) : Int) ((ah * 2 ^ (64 - k) % 18446744073709551616 : Nat) : Int) = Go.bits .or .u64 ((ah * 2 ^ (64 - k) % 18446744073709551616 : Nat) : Int) ((al / 2 ^ k : Nat) : Int) := by
    rw [or_nat (Nat.lt_of_le_of_lt (Nat.div_le_self _ _) h1) (Nat.mod_lt _ (by decide)), or_nat (Nat.mod_lt _ (by decide)) (Nat.lt_of_le_of_lt (Nat.div_le_self _ _) h1), Nat.or_comm]
   rw [c]
   refine or_add (n := 64 - k) (Nat.mod_lt _ (by decide)) (by omega) ?_ ?_
   ·
    rw [← hp, Nat.mul_comm (2 ^ k)]
    have : ah * 2 ^ (64 - k) % (2 ^ (64 - k) * 2 ^ k) = 2 ^ (64 - k) * (ah % 2 ^ k) := by rw [Nat.mul_comm ah]; exact Nat.mul_mod_mul_left ..
    rw [this]; exact Nat.mul_mod_right ..
   ·
    rw [Nat.div_lt_iff_lt_mul hP, Nat.mul_comm, hp]; exact h1
  rw [hor]
  unfold hi lo tw
  have e0 : (ah * 18446744073709551616 + al) / 2 ^ k = ah * 2 ^ (64 - k) + al / 2 ^ k := by
   rw [← hp, show ah * (2 ^ k * 2 ^ (64 - k)) + al = 2 ^ k * (ah * 2 ^ (64 - k)) + al by grind, Nat.mul_add_div hP]
  have e1 : (ah * 18446744073709551616 + al) / 2 ^ k / 18446744073709551616 = ah / 2 ^ k := by
   rw [Nat.div_div_eq_div_mul, Nat.mul_comm (2 ^ k) 18446744073709551616, ← Nat.div_div_eq_div_mul]; congr 1; omega
  have e2 : ah / 2 ^ k ≤ ah := Nat.div_le_self _ _
  have e3 : al / 2 ^ k < 2 ^ (64 - k) := by rw [Nat.div_lt_iff_lt_mul hP, Nat.mul_comm, hp]; exact h1
  have e4 : ah * 2 ^ (64 - k) % 18446744073709551616 = 2 ^ (64 - k) * (ah % 2 ^ k) := by rw [← hp, Nat.mul_comm (2 ^ k), Nat.mul_comm ah]; exact Nat.mul_mod_mul_left ..
  have e5 : ah % 2 ^ k < 2 ^ k := Nat.mod_lt _ hP
  have e6 : 2 ^ (64 - k) * (ah % 2 ^ k) + 2 ^ (64 - k) ≤ 2 ^ (64 - k) * 2 ^ k := by rw [← Nat.mul_succ]; exact Nat.mul_le_mul_left _ e5
  have e7 : ah * 2 ^ (64 - k) % 18446744073709551616 + al / 2 ^ k < 18446744073709551616 := by
   rw [e4]; rw [Nat.mul_comm (2 ^ (64 - k)) (2 ^ k), hp] at e6; omega
  rw [e1, Nat.mod_eq_of_lt (show ah / 2 ^ k < 18446744073709551616 by omega), e0, Nat.add_mod, Nat.mod_eq_of_lt (show al / 2 ^ k < 18446744073709551616 by omega), Nat.mod_eq_of_lt e7]
theorem mn_nat {ah al : Nat} (h0 : ah < 18446744073709551616) (h1 : al < 18446744073709551616) (k : Nat) : mn (k : Int) 128 = ((min k 128 : Nat) : Int) := by unfold mn; split <;> omega
theorem Shr_eq {ah al : Nat} (h0 : ah < 18446744073709551616) (h1 : al < 18446744073709551616) (k : Nat) : twin_Shr.f (ah : Int) (al : Int) (k : Int) = some (hi (tw ah al / 2 ^ (min k 128)), lo (tw ah al / 2 ^ (min k 128)), decide (tw ah al % 2 ^ (min k 128) ≠ 0), none) := by
 unfold twin_Shr.f
 have hm : min k 128 ≤ 128 := Nat.min_le_right _ _
 have ha := tw_lt h0 h1
 generalize hs : tw ah al / 2 ^ (min k 128) = s
 have hsl : s < 340282366920938463463374607431768211456 := by rw [← hs]; exact Nat.lt_of_le_of_lt (Nat.div_le_self _ _) ha
 have hsh := shl_eq (ah := s / 18446744073709551616 % 18446744073709551616) (al := s % 18446744073709551616) (Nat.mod_lt _ (by decide)) (Nat.mod_lt _ (by decide)) hm
 rw [tw_eq hsl] at hsh
 rw [if_neg (by omega), mn_nat h0 h1, shr_eq h0 h1 hm, hs]
 simp only [Option.bind_some]
 rw [show hi s = ((s / 18446744073709551616 % 18446744073709551616 : Nat) : Int) from rfl, show lo s = ((s % 18446744073709551616 : Nat) : Int) from rfl, hsh]
 simp only [Option.bind_some, Option.some.injEq, Prod.mk.injEq, and_true, true_and]
 have hd := Nat.div_add_mod (tw ah al) (2 ^ min k 128)
 rw [hs, Nat.mul_comm] at hd
 generalize tw ah al % 2 ^ min k 128 = r at *
 generalize s * 2 ^ min k 128 = t at *
 rw [Bool.eq_iff_iff, decide_eq_true_eq, Bool.or_eq_true, Bool.not_eq_true', Bool.not_eq_true', beq_eq_false_iff_ne, beq_eq_false_iff_ne]
 unfold hi lo
 unfold tw at hd ha
 omega
theorem Len_eq {ah al : Nat} (h0 : ah < 18446744073709551616) (h1 : al < 18446744073709551616) : Ev (fun n => twin_Len.f n (ah : Int) (al : Int)) ((blen (tw ah al) : Nat) : Int) := by
 unfold twin_Len.f
 by_cases h : 0 < ah
 ·
  refine Ev.congr (fun n => if_pos (by omega)) (Ev.bind (Len64_ev h0) ?_)
  have e : blen (tw ah al) = blen ah + 64 := by
   have := blen_shift (x := tw ah al) (k := 64) (by rw [p64]; unfold tw; omega)
   rw [p64, show tw ah al / 18446744073709551616 = ah by unfold tw; omega] at this
   exact this
  have hz := blen_le_of (show ah < 2 ^ 64 by rw [p64]; exact h0)
  rw [e, w64 (by omega) (by omega), show (64 : Int) + ((blen ah : Nat) : Int) = ((blen ah + 64 : Nat) : Int) by omega]
  exact Ev.now _
 ·
  have e : tw ah al = al := by unfold tw; omega
  rw [e]
  exact Ev.congr (fun n => if_neg (by omega)) (Ev.bind (Len64_ev h1) (Ev.now _))
theorem le_blen_shift {ah al : Nat} (h0 : ah < 18446744073709551616) (h1 : al < 18446744073709551616) {x k n : Nat} (hk : k ≤ n) : (n - k < blen x) ↔ 2 ^ n ≤ x * 2 ^ k := by
 have hp : 2 ^ n = 2 ^ (n - k) * 2 ^ k := by rw [← Nat.pow_add]; congr 1; omega
 have hpos : 0 < 2 ^ k := Nat.pow_pos (by decide)
 rw [hp, Nat.mul_le_mul_right_iff hpos]
 constructor
 ·
  intro h
  have hx : 0 < x := by
   rcases Nat.eq_zero_or_pos x with h1 | h1
   ·
    subst h1; simp [blen] at h
   ·
    exact h1
  have h1 : 2 ^ (n - k) ≤ 2 ^ (blen x - 1) := Nat.pow_le_pow_right (by decide) (by omega)
  exact Nat.le_trans h1 (blen_le hx)
 ·
  intro h
  rcases Nat.lt_or_ge (n - k) (blen x) with h1 | h1
  ·
   exact h1
  ·
   have h2 := lt_blen x
   have h3 : 2 ^ blen x ≤ 2 ^ (n - k) := Nat.pow_le_pow_right (by decide) h1
   omega
theorem Shl_eq {ah al : Nat} (h0 : ah < 18446744073709551616) (h1 : al < 18446744073709551616) (k : Nat) : Ev (fun n => twin_Shl.f n (ah : Int) (al : Int) (k : Int)) (hi (tw ah al * 2 ^ (min k 128)), lo (tw ah al * 2 ^ (min k 128)), decide (340282366920938463463374607431768211456 ≤ tw ah al * 2 ^ (min k 128)), none) := by
 have hm : min k 128 ≤ 128 := Nat.min_le_right _ _
 unfold twin_Shl.f
 refine Ev.congr (fun n => if_neg (by omega)) ?_
 rw [mn_nat h0 h1]
 refine Ev.bindp (shl_eq h0 h1 hm) (Ev.bind (Len_eq h0 h1) ?_)
 rw [w64 (by omega) (by omega)]
 have e : decide (((blen (tw ah al) : Nat) : Int) > 128 - ((min k 128 : Nat) : Int)) = decide (340282366920938463463374607431768211456 ≤ tw ah al * 2 ^ (min k 128)) := by
  rw [← p128, Bool.eq_iff_iff, decide_eq_true_eq, decide_eq_true_eq, ← le_blen_shift h0 h1 hm]
  omega
 rw [e]
 exact Ev.now _
theorem Norm_eq {ah al : Nat} (h0 : ah < 18446744073709551616) (h1 : al < 18446744073709551616) : Ev (fun n => twin_Norm.f n (ah : Int) (al : Int)) (if tw ah al = 0 then (0, 0, 0) else (hi (tw ah al * 2 ^ (128 - blen (tw ah al))), lo (tw ah al * 2 ^ (128 - blen (tw ah al))), ((128 - blen (tw ah al) : Nat) : Int))) := by
 have hb := blen128 h0 h1
 unfold twin_Norm.f
 by_cases h : tw ah al = 0
 ·
  obtain ⟨rfl, rfl⟩ : ah = 0 ∧ al = 0 := by unfold tw at h; omega
  rw [if_pos h]
  exact Ev.congr (fun n => if_pos (by decide)) (Ev.now _)
 ·
  rw [if_neg h]
  have e : ¬ (((ah : Int) == 0 && ((al : Int) == 0)) = true) := by
   rw [Bool.and_eq_true, beq_iff_eq, beq_iff_eq]; unfold tw at h; omega
  refine Ev.congr (fun n => if_neg e) (Ev.bind (Len_eq h0 h1) ?_)
  rw [w64 (x := 128 - ((blen (tw ah al) : Nat) : Int)) (by omega) (by omega), show 128 - ((blen (tw ah al) : Nat) : Int) = ((128 - blen (tw ah al) : Nat) : Int) by omega]
  exact Ev.bindp (shl_eq h0 h1 (by omega)) (Ev.now _)
end Go.Proofs.Ytjlaijaadclghaa.M
