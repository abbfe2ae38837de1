/- What the program's eighth layer computes at any number and patterns, and its reference: comparing, the lesser and the greater, the next, the negative, the sign, steps, holding between two. -/
import Derived.Test.YtikbelfghkfnnaaF3a
import Derived.Test.YtikbelfghkfnnaaF4a
import Derived.Test.YtikbelfghkfnnaaShapea
namespace Go.Proofs.Ytikbelfghkfnnaa.M
open Go.RowKit Go.Proofs.YtikbelfghkfnnaaW.PrintWords Go.Proofs.YtikbelfghkfnnaaW.PrintLast Go.Proofs.YtikbelfghkfnnaaW.PrintMore Go.Proofs.Ytikbelfghkfnnaa.F
set_option linter.unusedVariables false
set_option linter.unusedSimpArgs false
def icmp (x y : Int) : Int := if x < y then -1 else if x > y then 1 else 0
theorem oCmp_eq {n a b : Nat} (h : Wd n) (ha : a < 18446744073709551616) (hb : b < 18446744073709551616) : order_Cmp.f (n : Int) (a : Int) (b : Int) = some (icmp (ext a n) (ext b n), none) := by
  unfold order_Cmp.f icmp
  rw [Rank_eq h ha]
  simp only [Option.bind_some, Option.isNone_none, ↓reduceIte]
  rw [Rank_eq h hb]
  simp only [Option.bind_some]
  split
  · rfl
  · split <;> rfl
theorem same_of_ext {n a b : Nat} (h : Wd n) (he : ext a n = ext b n) : a % 2 ^ n = b % 2 ^ n := by rw [← asW_ext h a, he, asW_ext h b]
/-- The pattern of the lesser and of the greater rank. -/
def minP (n a b : Nat) : Nat := if ext a n ≤ ext b n then a % 2 ^ n else b % 2 ^ n
def maxP (n a b : Nat) : Nat := if ext a n ≤ ext b n then b % 2 ^ n else a % 2 ^ n
theorem oMin_eq {n a b : Nat} (h : Wd n) (ha : a < 18446744073709551616) (hb : b < 18446744073709551616) : order_Min.f (n : Int) (a : Int) (b : Int) = some ((minP n a b : Int), none) := by
  unfold order_Min.f minP
  rw [oCmp_eq h ha hb]
  simp only [Option.bind_some]
  by_cases hle : ext a n ≤ ext b n
  · rw [if_pos hle, if_neg (by unfold icmp; split <;> (try split) <;> omega), Fold_eq h ha]; rfl
  · rw [if_neg hle, if_pos (by unfold icmp; rw [if_neg (by omega), if_pos (by omega)]; decide), Fold_eq h hb]; rfl
theorem oMax_eq {n a b : Nat} (h : Wd n) (ha : a < 18446744073709551616) (hb : b < 18446744073709551616) : order_Max.f (n : Int) (a : Int) (b : Int) = some ((maxP n a b : Int), none) := by
  unfold order_Max.f maxP
  rw [oCmp_eq h ha hb]
  simp only [Option.bind_some]
  by_cases hle : ext a n ≤ ext b n
  · rw [if_pos hle]
    by_cases hlt : ext a n < ext b n
    · rw [if_pos (by unfold icmp; rw [if_pos hlt]; decide), Fold_eq h hb]; rfl
    · rw [if_neg (by unfold icmp; rw [if_neg hlt, if_neg (by omega)]; decide), Fold_eq h ha, same_of_ext h (show ext a n = ext b n by omega)]; rfl
  · rw [if_neg hle, if_neg (by unfold icmp; rw [if_neg (by omega), if_pos (by omega)]; decide), Fold_eq h ha]; rfl
theorem mod_lt64 {n : Nat} (h : Wd n) (a : Nat) : a % 2 ^ n < 18446744073709551616 := Nat.lt_of_lt_of_le (Nat.mod_lt _ (Nat.pow_pos (by decide))) (pow_le64 h.le)
theorem minP_lt {n : Nat} (h : Wd n) (a b : Nat) : minP n a b < 18446744073709551616 := by unfold minP; split <;> exact mod_lt64 h _
theorem maxP_lt {n : Nat} (h : Wd n) (a b : Nat) : maxP n a b < 18446744073709551616 := by unfold maxP; split <;> exact mod_lt64 h _
theorem ext_minP {n : Nat} (a b : Nat) : ext (minP n a b) n = if ext a n ≤ ext b n then ext a n else ext b n := by unfold minP; split <;> rw [ext_mod]
theorem ext_maxP {n : Nat} (a b : Nat) : ext (maxP n a b) n = if ext a n ≤ ext b n then ext b n else ext a n := by unfold maxP; split <;> rw [ext_mod]
/-- One rank further, but at the last and at NaR; and back. -/
def nextP (n p : Nat) : Nat := if p % 2 ^ n = 2 ^ (n - 1) ∨ p % 2 ^ n = 2 ^ (n - 1) - 1 then p % 2 ^ n else (p % 2 ^ n + 1) % 2 ^ n
def prevP (n p : Nat) : Nat := if p % 2 ^ n = 2 ^ (n - 1) ∨ p % 2 ^ n = 2 ^ (n - 1) + 1 then p % 2 ^ n else (p % 2 ^ n + 18446744073709551615) % 18446744073709551616 % 2 ^ n
theorem oNext_no {n a : Int} (h : NoW n) : order_Next.f n a = some (0, some 2) := by unfold order_Next.f; rw [Of_no h]; rfl
theorem oPrev_no {n a : Int} (h : NoW n) : order_Prev.f n a = some (0, some 2) := by unfold order_Prev.f; rw [Of_no h]; rfl
theorem dvd64 {n : Nat} (h : n ≤ 64) (x : Nat) : x % 18446744073709551616 % 2 ^ n = x % 2 ^ n := by
  have e : 18446744073709551616 = 2 ^ n * 2 ^ (64 - n) := by rw [← Nat.pow_add, show n + (64 - n) = 64 by omega, p64']
  rw [e, Nat.mod_mul_right_mod]
theorem oNext_eq {n p : Nat} (h : Wd n) (hp : p < 18446744073709551616) : order_Next.f (n : Int) (p : Int) = some ((nextP n p : Int), none) := by
  have hm := mod_lt64 h p
  have hh := half_lt h
  unfold order_Next.f nextP
  rw [Of_eq h]
  simp only [Option.bind_some, Option.isNone_none, ↓reduceIte]
  rw [Fold_eq h hp]
  simp only [Option.bind_some]
  by_cases g1 : p % 2 ^ n = 2 ^ (n - 1)
  · rw [if_pos (by omega), if_pos (Or.inl g1), Fold_eq h hm, Nat.mod_mod]; rfl
  · rw [if_neg (by omega)]
    by_cases g2 : p % 2 ^ n = 2 ^ (n - 1) - 1
    · rw [if_pos (by omega), if_pos (Or.inr g2), Fold_eq h hm, Nat.mod_mod]; rfl
    · have e : IntKind.u64.wrap (((p % 2 ^ n : Nat) : Int) + 1) = (((p % 2 ^ n + 1) % 18446744073709551616 : Nat) : Int) := by rw [u64w]; rfl
      rw [if_neg (by omega), if_neg (by omega), e, Fold_eq h (Nat.mod_lt _ (by decide)), dvd64 h.le]; rfl
theorem oPrev_eq {n p : Nat} (h : Wd n) (hp : p < 18446744073709551616) : order_Prev.f (n : Int) (p : Int) = some ((prevP n p : Int), none) := by
  have hm := mod_lt64 h p
  have hh := half_lt h
  have hh2 : 2 ^ (n - 1) + 1 < 18446744073709551616 := by
    have : 2 ^ (n - 1) ≤ 2 ^ 63 := Nat.pow_le_pow_right (by decide) (by have := h.le; omega)
    have e : (2 : Nat) ^ 63 = 9223372036854775808 := by decide
    omega
  have hge : (0 : Int) ≤ ((2 ^ (n - 1) : Nat) : Int) := Int.natCast_nonneg _
  unfold order_Prev.f prevP
  rw [Of_eq h]
  simp only [Option.bind_some, Option.isNone_none, ↓reduceIte]
  rw [Fold_eq h hp, u64s (by omega) (by omega)]
  simp only [Option.bind_some]
  by_cases g1 : p % 2 ^ n = 2 ^ (n - 1)
  · rw [if_pos (by omega), if_pos (Or.inl g1), Fold_eq h hm, Nat.mod_mod]; rfl
  · rw [if_neg (by omega)]
    by_cases g2 : p % 2 ^ n = 2 ^ (n - 1) + 1
    · rw [if_pos (by omega), if_pos (Or.inr g2), Fold_eq h hm, Nat.mod_mod]; rfl
    · have e : IntKind.u64.wrap (((p % 2 ^ n : Nat) : Int) - 1) = (((p % 2 ^ n + 18446744073709551615) % 18446744073709551616 : Nat) : Int) := by rw [u64w]; omega
      rw [if_neg (by omega), if_neg (by omega), e, Fold_eq h (Nat.mod_lt _ (by decide))]; rfl
/-- The two's complement. -/
def negP (n p : Nat) : Nat := asW (-(p : Int)) % 2 ^ n
theorem oNeg_eq {n p : Nat} (h : Wd n) : order_Neg.f (n : Int) (p : Int) = some ((negP n p : Int), none) := by
  unfold order_Neg.f negP; rw [u64_asW, Fold_eq h (asW_lt _)]; rfl
/-- Is it NaR? -/
def narB (n p : Nat) : Bool := decide (p % 2 ^ n = 2 ^ (n - 1))
theorem kind_nar (n p : Nat) (h : Wd n) : (kindN n p = 2) ↔ narB n p = true := by
  have hp : 0 < 2 ^ (n - 1) := Nat.pow_pos (by decide)
  unfold kindN narB
  rw [decide_eq_true_eq]
  split
  · rename_i g; constructor
    · intro g2; cases g2
    · intro g2; omega
  · split
    · rename_i g1 g2; simp [g2]
    · rename_i g1 g2; constructor
      · intro g3; cases g3
      · intro g3; exact absurd g3 g2
/-- How far two ranks are from one another. -/
def stepsP (n a b : Nat) : Int := if ext a n < ext b n then ext b n - ext a n else ext a n - ext b n
theorem ext_diff {n : Nat} (h : Wd n) (a b : Nat) (hle : ext a n ≤ ext b n) : IntKind.u64.wrap (IntKind.u64.wrap (ext b n) - IntKind.u64.wrap (ext a n)) = ext b n - ext a n := by
  have h1 := ext_bound (x := a) h.pos h.le
  have h2 := ext_bound (x := b) h.pos h.le
  rw [u64w, u64w, u64w]; omega
theorem oSteps_no {n a b : Int} (h : NoW n) : order_Steps.f n a b = some (0, some 2) := by unfold order_Steps.f; rw [Rank_no h]; rfl
theorem oSteps_eq {n a b : Nat} (h : Wd n) (ha : a < 18446744073709551616) (hb : b < 18446744073709551616) : order_Steps.f (n : Int) (a : Int) (b : Int) = some (stepsP n a b, none) := by
  unfold order_Steps.f stepsP
  rw [Rank_eq h ha]
  simp only [Option.bind_some, Option.isNone_none, ↓reduceIte]
  rw [Rank_eq h hb]
  simp only [Option.bind_some]
  by_cases g : ext a n < ext b n
  · rw [if_pos g, if_pos g, ext_diff h a b (by omega)]
  · rw [if_neg g, if_neg g, ext_diff h b a (by omega)]
/-- Held between two. -/
def clampR (n p a b : Nat) : Int × Option Int := if narB n p = true ∨ narB n a = true ∨ narB n b = true then (0, some 9) else if ext b n < ext a n then (0, some 1) else ((minP n (maxP n p a) b : Int), none)
theorem oClamp_step {n : Nat} {p a b : Nat} {l : List Int} {len : Int} (h : Wd n) (i : Nat) (x : Nat) (hx : x < 18446744073709551616) (hi : l.getD i 0 = (x : Int)) (hl : i < l.length) (hlen : len = l.length) (hs : i < 1000) (r : Int × Option Int)
    (hr : Ev (fun k => if narB n x = true then some (0, some 9) else order_Clamp.l0 k (n : Int) (p : Int) (a : Int) (b : Int) l len ((i + 1 : Nat) : Int)) r) : Ev (fun k => order_Clamp.l0 k (n : Int) (p : Int) (a : Int) (b : Int) l len (i : Int)) r := by
  refine Ev.step (fun k => ?_) hr
  have hk := kind_nar n x h
  simp only [order_Clamp.l0]
  rw [if_pos (by omega), if_pos (by omega), if_pos (by omega), rd_nat, hi, Kind_eq h hx, w64 (by omega) (by omega)]
  simp only [Option.bind_some, Option.isNone_none, ↓reduceIte]
  by_cases g : narB n x = true
  · rw [if_pos (hk.mpr g), if_pos g]
  · rw [if_neg (fun g2 => g (hk.mp g2)), if_neg g]; rfl
theorem oClamp_ev {n p a b : Nat} (h : Wd n) (hp : p < 18446744073709551616) (ha : a < 18446744073709551616) (hb : b < 18446744073709551616) : Ev (fun k => order_Clamp.f k (n : Int) (p : Int) (a : Int) (b : Int)) (clampR n p a b) := by
  unfold order_Clamp.f clampR
  simp only [Option.bind_some]
  refine oClamp_step h 0 p hp rfl (by simp) rfl (by decide) _ ?_
  by_cases g1 : narB n p = true
  · rw [if_pos (Or.inl g1)]; exact Ev.congr (fun k => if_pos g1) (Ev.now _)
  refine Ev.congr (fun k => if_neg g1) (oClamp_step h 1 a ha rfl (by simp) rfl (by decide) _ ?_)
  by_cases g2 : narB n a = true
  · rw [if_pos (Or.inr (Or.inl g2))]; exact Ev.congr (fun k => if_pos g2) (Ev.now _)
  refine Ev.congr (fun k => if_neg g2) (oClamp_step h 2 b hb rfl (by simp) rfl (by decide) _ ?_)
  by_cases g3 : narB n b = true
  · rw [if_pos (Or.inr (Or.inr g3))]; exact Ev.congr (fun k => if_pos g3) (Ev.now _)
  rw [if_neg (by intro g; rcases g with g | g | g; exact g1 g; exact g2 g; exact g3 g)]
  refine Ev.congr (fun k => if_neg g3) (Ev.step (f := fun k => some (if ext b n < ext a n then (0, some 1) else ((minP n (maxP n p a) b : Int), none))) (fun k => ?_) (Ev.now _))
  simp only [order_Clamp.l0]
  rw [if_neg (by simp), oCmp_eq h ha hb]
  simp only [Option.bind_some]
  by_cases g : ext b n < ext a n
  · rw [if_pos (by unfold icmp; rw [if_neg (by omega), if_pos (by omega)]; decide), if_pos g]
  · rw [if_neg (by unfold icmp; split <;> (try split) <;> omega), if_neg g, oMax_eq h hp ha]
    simp only [Option.bind_some]
    rw [oMin_eq h (maxP_lt h _ _) hb]
    rfl
theorem up08 : vernierlaw08_up.f = some true := by
  have e1 := oCmp_eq (n := 8) (a := 255) (b := 1) (Or.inl rfl) (by decide) (by decide)
  have e2 := oNext_eq (n := 8) (p := 255) (Or.inl rfl) (by decide)
  have e3 := oNeg_eq (n := 8) (p := 64) (Or.inl rfl)
  have c1 : order_Cmp.f 8 255 1 = some (-1, none) := e1
  have c2 : order_Next.f 8 255 = some (0, none) := e2
  have c3 : order_Neg.f 8 64 = some (192, none) := e3
  unfold vernierlaw08_up.f
  rw [c1]; simp only [Option.bind_some]
  rw [c2]; simp only [Option.bind_some]
  rw [c3]; rfl
end Go.Proofs.Ytikbelfghkfnnaa.M
