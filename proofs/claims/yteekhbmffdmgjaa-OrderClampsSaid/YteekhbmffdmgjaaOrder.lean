/- What the program's eighth layer computes at any number and patterns, and its reference: comparing, the lesser and the greater, the next, the negative, the sign, steps, holding between two. -/
import Derived.Test.YteekhbmffdmgjaaF6
import Derived.Test.YteekhbmffdmgjaaF7
import Derived.Test.YteekhbmffdmgjaaF10
import Derived.Test.YteekhbmffdmgjaaF11
import Derived.Test.YteekhbmffdmgjaaF13
import Derived.Test.YteekhbmffdmgjaaShape
namespace Go.Proofs.Yteekhbmffdmgjaa.M
open Go.RowKit Go.Proofs.YteekhbmffdmgjaaW.PrintWords Go.Proofs.YteekhbmffdmgjaaW.PrintLast Go.Proofs.YteekhbmffdmgjaaW.PrintMore Go.Proofs.Yteekhbmffdmgjaa.F
set_option linter.unusedVariables false
set_option linter.unusedSimpArgs false

theorem code2 : vernierlaw00_Code.f (some 2) = some 2 := rfl
theorem code9 : vernierlaw00_Code.f (some 9) = some 9 := rfl
/-- No width. -/
def NoW (a : Int) : Prop := a ≠ 8 ∧ a ≠ 16 ∧ a ≠ 32 ∧ a ≠ 64
def icmp (x y : Int) : Int := if x < y then -1 else if x > y then 1 else 0
theorem oCmp_no {n a b : Int} (h : NoW n) : order_Cmp.f n a b = some (0, some 2) := by unfold order_Cmp.f; rw [Rank_no h]; rfl
theorem oCmp_eq {n a b : Nat} (h : Wd n) (ha : a < 18446744073709551616) (hb : b < 18446744073709551616) : order_Cmp.f (n : Int) (a : Int) (b : Int) = some (icmp (ext a n) (ext b n), none) := by
  unfold order_Cmp.f icmp
  rw [Rank_eq h ha]
  simp only [Option.bind_some, Option.isNone_none, ↓reduceIte]
  rw [Rank_eq h hb]
  simp only [Option.bind_some]
  split
  · rfl
  · split <;> rfl
theorem rCmps_no {n a b : Int} (h : NoW n) : Ev (fun k => vernierref08_Cmps.f k n a b) (0, 2) := by
  unfold vernierref08_Cmps.f
  exact Ev.bind (Rank05_no h) (Ev.bind (Rank05_no h) (Ev.congr (fun k => if_neg (by simp)) (Ev.now _)))
theorem rCmps_ev {n a b : Nat} (h : Wd n) (ha : a < 18446744073709551616) (hb : b < 18446744073709551616) : Ev (fun k => vernierref08_Cmps.f k (n : Int) (a : Int) (b : Int)) (icmp (ext a n) (ext b n), 0) := by
  unfold vernierref08_Cmps.f icmp
  refine Ev.bind (Rank05_ev h ha) (Ev.bind (Rank05_ev h hb) ?_)
  simp only [↓reduceIte]
  split
  · exact Ev.now _
  · split <;> exact Ev.now _
theorem rFold_ev {n a : Nat} (h : Wd n) (ha : a < 18446744073709551616) : Ev (fun k => vernierref06_Fold.f k (n : Int) (a : Int)) ((a % 2 ^ n : Nat) : Int) := by
  unfold vernierref06_Fold.f
  exact Ev.bind (Fold05_ev h ha) (Ev.now _)
theorem same_of_ext {n a b : Nat} (h : Wd n) (he : ext a n = ext b n) : a % 2 ^ n = b % 2 ^ n := by rw [← asW_ext h a, he, asW_ext h b]
/-- The pattern of the lesser and of the greater rank. -/
def minP (n a b : Nat) : Nat := if ext a n ≤ ext b n then a % 2 ^ n else b % 2 ^ n
def maxP (n a b : Nat) : Nat := if ext a n ≤ ext b n then b % 2 ^ n else a % 2 ^ n
theorem oMin_no {n a b : Int} (h : NoW n) : order_Min.f n a b = some (0, some 2) := by
  unfold order_Min.f; rw [oCmp_no h]; simp only [Option.bind_some]; rw [if_neg (by decide), Fold_no h]; rfl
theorem oMax_no {n a b : Int} (h : NoW n) : order_Max.f n a b = some (0, some 2) := by
  unfold order_Max.f; rw [oCmp_no h]; simp only [Option.bind_some]; rw [if_neg (by decide), Fold_no h]; rfl
theorem oMin_eq {n a b : Nat} (h : Wd n) (ha : a < 18446744073709551616) (hb : b < 18446744073709551616) : order_Min.f (n : Int) (a : Int) (b : Int) = some ((minP n a b : Int), none) := by
  unfold order_Min.f minP
  rw [oCmp_eq h ha hb]
  simp only [Option.bind_some]
  by_cases hle : ext a n ≤ ext b n
  · rw [if_pos hle, if_neg (by unfold icmp; split <;> (try split) <;> omega), Fold_eq h ha]; rfl
  · rw [if_neg hle, if_pos (by unfold icmp; rw [if_neg (by omega), if_pos (by omega)]; decide), Fold_eq h hb]; rfl
theorem oMax_eq {n a b : Nat} (h : Wd n) (ha : a < 18446744073709551616) (hb : b < 18446744073709551616) : order_Max.f (n : Int) (a : Int) (b : Int) = some ((maxP n a b : Int), none) := by
  unfold order_Max.f maxP
  rw [oCmp_eq h ha hb]
  simp only [Option.bind_some]
  by_cases hle : ext a n ≤ ext b n
  · rw [if_pos hle]
    by_cases hlt : ext a n < ext b n
    · rw [if_pos (by unfold icmp; rw [if_pos hlt]; decide), Fold_eq h hb]; rfl
    · rw [if_neg (by unfold icmp; rw [if_neg hlt, if_neg (by omega)]; decide), Fold_eq h ha, same_of_ext h (show ext a n = ext b n by omega)]; rfl
  · rw [if_neg hle, if_neg (by unfold icmp; rw [if_neg (by omega), if_pos (by omega)]; decide), Fold_eq h ha]; rfl
theorem rMin_no {n a b : Int} (h : NoW n) : Ev (fun k => vernierref08_Min.f k n a b) (0, 2) := by
  unfold vernierref08_Min.f
  exact Ev.bind (rCmps_no h) (Ev.congr (fun k => if_neg (by simp)) (Ev.now _))
theorem rMax_no {n a b : Int} (h : NoW n) : Ev (fun k => vernierref08_Max.f k n a b) (0, 2) := by
  unfold vernierref08_Max.f
  exact Ev.bind (rCmps_no h) (Ev.congr (fun k => if_neg (by simp)) (Ev.now _))
theorem rMin_ev {n a b : Nat} (h : Wd n) (ha : a < 18446744073709551616) (hb : b < 18446744073709551616) : Ev (fun k => vernierref08_Min.f k (n : Int) (a : Int) (b : Int)) ((minP n a b : Int), 0) := by
  unfold vernierref08_Min.f minP
  refine Ev.bind (rCmps_ev h ha hb) ?_
  simp only [↓reduceIte]
  by_cases hlt : ext a n < ext b n
  · rw [if_pos (show ext a n ≤ ext b n by omega)]
    exact Ev.congr (fun k => if_pos (by unfold icmp; rw [if_pos hlt]; decide)) (Ev.bind (rFold_ev h ha) (Ev.now _))
  · refine Ev.congr (fun k => if_neg (by unfold icmp; rw [if_neg hlt]; split <;> decide)) (Ev.bind (rFold_ev h hb) ?_)
    by_cases hle : ext a n ≤ ext b n
    · rw [if_pos hle, same_of_ext h (show ext a n = ext b n by omega)]; exact Ev.now _
    · rw [if_neg hle]; exact Ev.now _
theorem rMax_ev {n a b : Nat} (h : Wd n) (ha : a < 18446744073709551616) (hb : b < 18446744073709551616) : Ev (fun k => vernierref08_Max.f k (n : Int) (a : Int) (b : Int)) ((maxP n a b : Int), 0) := by
  unfold vernierref08_Max.f maxP
  refine Ev.bind (rCmps_ev h ha hb) ?_
  simp only [↓reduceIte]
  by_cases hle : ext a n ≤ ext b n
  · rw [if_pos hle]
    exact Ev.congr (fun k => if_neg (by unfold icmp; split <;> (try split) <;> omega)) (Ev.bind (rFold_ev h hb) (Ev.now _))
  · rw [if_neg hle]
    exact Ev.congr (fun k => if_pos (by unfold icmp; rw [if_neg (by omega), if_pos (by omega)]; decide)) (Ev.bind (rFold_ev h ha) (Ev.now _))
theorem mod_lt64 {n : Nat} (h : Wd n) (a : Nat) : a % 2 ^ n < 18446744073709551616 := Nat.lt_of_lt_of_le (Nat.mod_lt _ (Nat.pow_pos (by decide))) (pow_le64 h.le)
theorem minP_lt {n : Nat} (h : Wd n) (a b : Nat) : minP n a b < 18446744073709551616 := by unfold minP; split <;> exact mod_lt64 h _
theorem maxP_lt {n : Nat} (h : Wd n) (a b : Nat) : maxP n a b < 18446744073709551616 := by unfold maxP; split <;> exact mod_lt64 h _
theorem ext_minP {n : Nat} (a b : Nat) : ext (minP n a b) n = if ext a n ≤ ext b n then ext a n else ext b n := by unfold minP; split <;> rw [ext_mod]
theorem ext_maxP {n : Nat} (a b : Nat) : ext (maxP n a b) n = if ext a n ≤ ext b n then ext b n else ext a n := by unfold maxP; split <;> rw [ext_mod]

/-- One rank further, but at the last and at NaR; and back. -/
def nextP (n p : Nat) : Nat := if p % 2 ^ n = 2 ^ (n - 1) ∨ p % 2 ^ n = 2 ^ (n - 1) - 1 then p % 2 ^ n else (p % 2 ^ n + 1) % 2 ^ n
def prevP (n p : Nat) : Nat := if p % 2 ^ n = 2 ^ (n - 1) ∨ p % 2 ^ n = 2 ^ (n - 1) + 1 then p % 2 ^ n else (p % 2 ^ n + 18446744073709551615) % 18446744073709551616 % 2 ^ n
theorem oNext_no {n a : Int} (h : NoW n) : order_Next.f n a = some (0, some 2) := by unfold order_Next.f; rw [Of_no h]; rfl
theorem oPrev_no {n a : Int} (h : NoW n) : order_Prev.f n a = some (0, some 2) := by unfold order_Prev.f; rw [Of_no h]; rfl
theorem dvd64 {n : Nat} (h : n ≤ 64) (x : Nat) : x % 18446744073709551616 % 2 ^ n = x % 2 ^ n := by
  have e : 18446744073709551616 = 2 ^ n * 2 ^ (64 - n) := by rw [← Nat.pow_add, show n + (64 - n) = 64 by omega, p64']
  rw [e, Nat.mod_mul_right_mod]
theorem oNext_eq {n p : Nat} (h : Wd n) (hp : p < 18446744073709551616) : order_Next.f (n : Int) (p : Int) = some ((nextP n p : Int), none) := by
  have hm := mod_lt64 h p
  have hh := half_lt h
  unfold order_Next.f nextP
  rw [Of_eq h]
  simp only [Option.bind_some, Option.isNone_none, ↓reduceIte]
  rw [Fold_eq h hp]
  simp only [Option.bind_some]
  by_cases g1 : p % 2 ^ n = 2 ^ (n - 1)
  · rw [if_pos (by omega), if_pos (Or.inl g1), Fold_eq h hm, Nat.mod_mod]; rfl
  · rw [if_neg (by omega)]
    by_cases g2 : p % 2 ^ n = 2 ^ (n - 1) - 1
    · rw [if_pos (by omega), if_pos (Or.inr g2), Fold_eq h hm, Nat.mod_mod]; rfl
    · have e : IntKind.u64.wrap (((p % 2 ^ n : Nat) : Int) + 1) = (((p % 2 ^ n + 1) % 18446744073709551616 : Nat) : Int) := by rw [u64w]; rfl
      rw [if_neg (by omega), if_neg (by omega), e, Fold_eq h (Nat.mod_lt _ (by decide)), dvd64 h.le]; rfl
theorem oPrev_eq {n p : Nat} (h : Wd n) (hp : p < 18446744073709551616) : order_Prev.f (n : Int) (p : Int) = some ((prevP n p : Int), none) := by
  have hm := mod_lt64 h p
  have hh := half_lt h
  have hh2 : 2 ^ (n - 1) + 1 < 18446744073709551616 := by
    have : 2 ^ (n - 1) ≤ 2 ^ 63 := Nat.pow_le_pow_right (by decide) (by have := h.le; omega)
    have e : (2 : Nat) ^ 63 = 9223372036854775808 := by decide
    omega
  have hge : (0 : Int) ≤ ((2 ^ (n - 1) : Nat) : Int) := Int.natCast_nonneg _
  unfold order_Prev.f prevP
  rw [Of_eq h]
  simp only [Option.bind_some, Option.isNone_none, ↓reduceIte]
  rw [Fold_eq h hp, u64s (by omega) (by omega)]
  simp only [Option.bind_some]
  by_cases g1 : p % 2 ^ n = 2 ^ (n - 1)
  · rw [if_pos (by omega), if_pos (Or.inl g1), Fold_eq h hm, Nat.mod_mod]; rfl
  · rw [if_neg (by omega)]
    by_cases g2 : p % 2 ^ n = 2 ^ (n - 1) + 1
    · rw [if_pos (by omega), if_pos (Or.inr g2), Fold_eq h hm, Nat.mod_mod]; rfl
    · have e : IntKind.u64.wrap (((p % 2 ^ n : Nat) : Int) - 1) = (((p % 2 ^ n + 18446744073709551615) % 18446744073709551616 : Nat) : Int) := by rw [u64w]; omega
      rw [if_neg (by omega), if_neg (by omega), e, Fold_eq h (Nat.mod_lt _ (by decide))]; rfl
theorem rStep_ev {n p : Nat} {last by_ : Int} {res : Nat} (h : Wd n) (hp : p < 18446744073709551616) (c : Nat) (hc : c < 18446744073709551616) (he : IntKind.u64.wrap (((p % 2 ^ n : Nat) : Int) + by_) = (c : Int))
    (hres : res = if p % 2 ^ n = 2 ^ (n - 1) ∨ ((p % 2 ^ n : Nat) : Int) = last then p % 2 ^ n else c % 2 ^ n) : Ev (fun k => vernierref08_step.f k (n : Int) (p : Int) by_ last) ((res : Int), 0) := by
  have h1 := h.le
  unfold vernierref08_step.f
  refine Ev.bind (Fold05_ev h hp) ?_
  simp only [↓reduceIte, pred_w h]
  refine Ev.bind (Power_ev (by omega)) ?_
  rw [hres]
  by_cases g1 : p % 2 ^ n = 2 ^ (n - 1)
  · rw [if_pos (Or.inl g1)]; exact Ev.congr (fun k => if_pos (by omega)) (Ev.now _)
  · refine Ev.congr (fun k => if_neg (by omega)) ?_
    by_cases g2 : ((p % 2 ^ n : Nat) : Int) = last
    · rw [if_pos (Or.inr g2)]; exact Ev.congr (fun k => if_pos g2) (Ev.now _)
    · rw [if_neg (by intro g; rcases g with g | g; exact g1 g; exact g2 g)]
      refine Ev.congr (fun k => if_neg g2) ?_
      rw [he]
      exact Ev.bind (rFold_ev h hc) (Ev.now _)
theorem rNext_no {n a : Int} (h : NoW n) : Ev (fun k => vernierref08_Next.f k n a) (0, 2) := by
  unfold vernierref08_Next.f; exact Ev.bind (Of05_no h) (Ev.congr (fun k => if_neg (by simp)) (Ev.now _))
theorem rPrev_no {n a : Int} (h : NoW n) : Ev (fun k => vernierref08_Prev.f k n a) (0, 2) := by
  unfold vernierref08_Prev.f; exact Ev.bind (Of05_no h) (Ev.congr (fun k => if_neg (by simp)) (Ev.now _))
theorem rNext_ev {n p : Nat} (h : Wd n) (hp : p < 18446744073709551616) : Ev (fun k => vernierref08_Next.f k (n : Int) (p : Int)) ((nextP n p : Int), 0) := by
  unfold vernierref08_Next.f
  refine Ev.bind (Of05_ev h) ?_
  simp only [↓reduceIte]
  refine Ev.bind (rStep_ev (res := nextP n p) h hp ((p % 2 ^ n + 1) % 18446744073709551616) (Nat.mod_lt _ (by decide)) (by rw [u64w]; rfl) ?_) (Ev.now _)
  unfold nextP
  rw [dvd64 h.le]
  by_cases g : p % 2 ^ n = 2 ^ (n - 1) ∨ p % 2 ^ n = 2 ^ (n - 1) - 1
  · rw [if_pos g, if_pos (by omega)]
  · rw [if_neg g, if_neg (by omega)]
theorem rPrev_ev {n p : Nat} (h : Wd n) (hp : p < 18446744073709551616) : Ev (fun k => vernierref08_Prev.f k (n : Int) (p : Int)) ((prevP n p : Int), 0) := by
  have hh2 : 2 ^ (n - 1) + 1 < 18446744073709551616 := by
    have : 2 ^ (n - 1) ≤ 2 ^ 63 := Nat.pow_le_pow_right (by decide) (by have := h.le; omega)
    have e : (2 : Nat) ^ 63 = 9223372036854775808 := by decide
    omega
  have hge : (0 : Int) ≤ ((2 ^ (n - 1) : Nat) : Int) := Int.natCast_nonneg _
  unfold vernierref08_Prev.f
  refine Ev.bind (Of05_ev h) ?_
  simp only [↓reduceIte]
  rw [u64s (x := ((2 ^ (n - 1) : Nat) : Int) + 1) (by omega) (by omega)]
  refine Ev.bind (rStep_ev (res := prevP n p) h hp ((p % 2 ^ n + 18446744073709551615) % 18446744073709551616) (Nat.mod_lt _ (by decide)) (by rw [u64w]; rfl) ?_) (Ev.now _)
  unfold prevP
  by_cases g : p % 2 ^ n = 2 ^ (n - 1) ∨ p % 2 ^ n = 2 ^ (n - 1) + 1
  · rw [if_pos g, if_pos (by omega)]
  · rw [if_neg g, if_neg (by omega)]

/-- The two's complement. -/
def negP (n p : Nat) : Nat := asW (-(p : Int)) % 2 ^ n
theorem oNeg_no {n a : Int} (h : NoW n) : order_Neg.f n a = some (0, some 2) := by unfold order_Neg.f; rw [Fold_no h]; rfl
theorem oNeg_eq {n p : Nat} (h : Wd n) : order_Neg.f (n : Int) (p : Int) = some ((negP n p : Int), none) := by
  unfold order_Neg.f negP; rw [u64_asW, Fold_eq h (asW_lt _)]; rfl
theorem rNeg06_ev {n p : Nat} (h : Wd n) : Ev (fun k => vernierref06_Neg.f k (n : Int) (p : Int)) (negP n p : Int) := by
  unfold vernierref06_Neg.f negP
  rw [u64_asW]
  exact Ev.bind (rFold_ev h (asW_lt _)) (Ev.now _)
theorem rNeg_no {n a : Int} (h : NoW n) : Ev (fun k => vernierref08_Neg.f k n a) (0, 2) := by unfold vernierref08_Neg.f; rw [Is_no h]; exact Ev.now _
theorem rNeg_ev {n p : Nat} (h : Wd n) : Ev (fun k => vernierref08_Neg.f k (n : Int) (p : Int)) ((negP n p : Int), 0) := by
  unfold vernierref08_Neg.f; rw [Is_w h]; simp only [Option.bind_some, ↓reduceIte]; exact Ev.bind (rNeg06_ev h) (Ev.now _)
def absP (n p : Nat) : Nat := if ext p n < 0 then negP n p else p % 2 ^ n
theorem oAbs_no {n a : Int} (h : NoW n) : order_Abs.f n a = some (0, some 2) := by
  unfold order_Abs.f; rw [Rank_no h]; simp only [Option.bind_some]; rw [if_neg (by decide), Fold_no h]; rfl
theorem oAbs_eq {n p : Nat} (h : Wd n) (hp : p < 18446744073709551616) : order_Abs.f (n : Int) (p : Int) = some ((absP n p : Int), none) := by
  unfold order_Abs.f absP
  rw [Rank_eq h hp]
  simp only [Option.bind_some]
  by_cases g : ext p n < 0
  · rw [if_pos g, if_pos g, u64_asW, Fold_eq h (asW_lt _)]; rfl
  · rw [if_neg g, if_neg g, Fold_eq h hp]; rfl
theorem rAbs_no {n a : Int} (h : NoW n) : Ev (fun k => vernierref08_Abs.f k n a) (0, 2) := by
  unfold vernierref08_Abs.f; exact Ev.bind (Rank05_no h) (Ev.congr (fun k => if_neg (by simp)) (Ev.now _))
theorem rAbs_ev {n p : Nat} (h : Wd n) (hp : p < 18446744073709551616) : Ev (fun k => vernierref08_Abs.f k (n : Int) (p : Int)) ((absP n p : Int), 0) := by
  unfold vernierref08_Abs.f absP
  refine Ev.bind (Rank05_ev h hp) ?_
  simp only [↓reduceIte]
  by_cases g : ext p n < 0
  · rw [if_pos g]; exact Ev.congr (fun k => if_pos g) (Ev.bind (rNeg06_ev h) (Ev.now _))
  · rw [if_neg g]; exact Ev.congr (fun k => if_neg g) (Ev.bind (rFold_ev h hp) (Ev.now _))
/-- Is it NaR? -/
def narB (n p : Nat) : Bool := decide (p % 2 ^ n = 2 ^ (n - 1))
theorem kind_nar (n p : Nat) (h : Wd n) : (kindN n p = 2) ↔ narB n p = true := by
  have hp : 0 < 2 ^ (n - 1) := Nat.pow_pos (by decide)
  unfold kindN narB
  rw [decide_eq_true_eq]
  split
  · rename_i g; constructor
    · intro g2; cases g2
    · intro g2; omega
  · split
    · rename_i g1 g2; simp [g2]
    · rename_i g1 g2; constructor
      · intro g3; cases g3
      · intro g3; exact absurd g3 g2
theorem rnar_ev {n p : Nat} (h : Wd n) (hp : p < 18446744073709551616) : Ev (fun k => vernierref08_nar.f k (n : Int) (p : Int)) (narB n p) := by
  unfold vernierref08_nar.f
  refine Ev.bind (rFold_ev h hp) ?_
  rw [pred_w h]
  refine Ev.bind (Power_ev (by have := h.le; omega)) ?_
  have e : (((p % 2 ^ n : Nat) : Int) == ((2 ^ (n - 1) : Nat) : Int)) = narB n p := by
    unfold narB; rw [Bool.eq_iff_iff, beq_iff_eq, decide_eq_true_eq]; omega
  rw [e]; exact Ev.now _
def signP (n p : Nat) : Int := icmp (ext p n) (ext 0 n)
theorem oSign_no {n a : Int} (h : NoW n) : order_Sign.f n a = some (0, some 2) := by unfold order_Sign.f; rw [Kind_no h]; rfl
theorem oSign_eq {n p : Nat} (h : Wd n) (hp : p < 18446744073709551616) : order_Sign.f (n : Int) (p : Int) = some (if narB n p = true then (0, some 9) else (signP n p, none)) := by
  unfold order_Sign.f signP
  rw [Kind_eq h hp]
  simp only [Option.bind_some, Option.isNone_none, ↓reduceIte]
  have hk := kind_nar n p h
  have ho := oCmp_eq h hp (show 0 < 18446744073709551616 by decide)
  by_cases g : narB n p = true
  · rw [if_pos (hk.mpr g), if_pos g]
  · rw [if_neg (fun g2 => g (hk.mp g2)), if_neg g, show (0 : Int) = ((0 : Nat) : Int) from rfl, ho]; rfl
theorem rSign_no {n a : Int} (h : NoW n) : Ev (fun k => vernierref08_Sign.f k n a) (0, 2) := by
  unfold vernierref08_Sign.f; exact Ev.bind (rCmps_no h) (Ev.congr (fun k => if_neg (by simp)) (Ev.now _))
theorem rSign_ev {n p : Nat} (h : Wd n) (hp : p < 18446744073709551616) : Ev (fun k => vernierref08_Sign.f k (n : Int) (p : Int)) (if narB n p = true then (0, 9) else (signP n p, 0)) := by
  unfold vernierref08_Sign.f signP
  refine Ev.bind (rCmps_ev (b := 0) h hp (by decide)) ?_
  simp only [↓reduceIte]
  refine Ev.bind (rnar_ev h hp) ?_
  by_cases g : narB n p = true
  · simp only [g, ↓reduceIte]; exact Ev.now _
  · simp only [g, Bool.false_eq_true, ↓reduceIte]; exact Ev.now _
/-- How far two ranks are from one another. -/
def stepsP (n a b : Nat) : Int := if ext a n < ext b n then ext b n - ext a n else ext a n - ext b n
theorem ext_diff {n : Nat} (h : Wd n) (a b : Nat) (hle : ext a n ≤ ext b n) : IntKind.u64.wrap (IntKind.u64.wrap (ext b n) - IntKind.u64.wrap (ext a n)) = ext b n - ext a n := by
  have h1 := ext_bound (x := a) h.pos h.le
  have h2 := ext_bound (x := b) h.pos h.le
  rw [u64w, u64w, u64w]; omega
theorem oSteps_no {n a b : Int} (h : NoW n) : order_Steps.f n a b = some (0, some 2) := by unfold order_Steps.f; rw [Rank_no h]; rfl
theorem oSteps_eq {n a b : Nat} (h : Wd n) (ha : a < 18446744073709551616) (hb : b < 18446744073709551616) : order_Steps.f (n : Int) (a : Int) (b : Int) = some (stepsP n a b, none) := by
  unfold order_Steps.f stepsP
  rw [Rank_eq h ha]
  simp only [Option.bind_some, Option.isNone_none, ↓reduceIte]
  rw [Rank_eq h hb]
  simp only [Option.bind_some]
  by_cases g : ext a n < ext b n
  · rw [if_pos g, if_pos g, ext_diff h a b (by omega)]
  · rw [if_neg g, if_neg g, ext_diff h b a (by omega)]
theorem rSteps_no {n a b : Int} (h : NoW n) : Ev (fun k => vernierref08_Steps.f k n a b) (0, 2) := by
  unfold vernierref08_Steps.f; exact Ev.bind (rCmps_no h) (Ev.congr (fun k => if_neg (by simp)) (Ev.now _))
theorem rSteps_ev {n a b : Nat} (h : Wd n) (ha : a < 18446744073709551616) (hb : b < 18446744073709551616) : Ev (fun k => vernierref08_Steps.f k (n : Int) (a : Int) (b : Int)) (stepsP n a b, 0) := by
  unfold vernierref08_Steps.f stepsP
  refine Ev.bind (rCmps_ev h ha hb) ?_
  simp only [↓reduceIte]
  refine Ev.bind (Rank05_ev h ha) (Ev.bind (Rank05_ev h hb) ?_)
  by_cases g : ext a n < ext b n
  · rw [if_pos g, ← ext_diff h a b (by omega)]
    exact Ev.congr (fun k => if_pos (by unfold icmp; rw [if_pos g]; decide)) (Ev.now _)
  · rw [if_neg g, ← ext_diff h b a (by omega)]
    exact Ev.congr (fun k => if_neg (by unfold icmp; rw [if_neg g]; split <;> decide)) (Ev.now _)
/-- Held between two. -/
def clampR (n p a b : Nat) : Int × Option Int := if narB n p = true ∨ narB n a = true ∨ narB n b = true then (0, some 9) else if ext b n < ext a n then (0, some 1) else ((minP n (maxP n p a) b : Int), none)
theorem oClamp_no {n p a b : Int} (h : NoW n) : Ev (fun k => order_Clamp.f k n p a b) (0, some 2) := by
  unfold order_Clamp.f
  refine Ev.step (f := fun k => some (0, some 2)) (fun k => ?_) (Ev.now _)
  simp only [Option.bind_some, order_Clamp.l0]
  rw [if_pos (by simp), if_pos (by decide), if_pos (by simp), Kind_no h]
  rfl
theorem oClamp_step {n : Nat} {p a b : Nat} {l : List Int} {len : Int} (h : Wd n) (i : Nat) (x : Nat) (hx : x < 18446744073709551616) (hi : l.getD i 0 = (x : Int)) (hl : i < l.length) (hlen : len = l.length) (hs : i < 1000) (r : Int × Option Int)
    (hr : Ev (fun k => if narB n x = true then some (0, some 9) else order_Clamp.l0 k (n : Int) (p : Int) (a : Int) (b : Int) l len ((i + 1 : Nat) : Int)) r) : Ev (fun k => order_Clamp.l0 k (n : Int) (p : Int) (a : Int) (b : Int) l len (i : Int)) r := by
  refine Ev.step (fun k => ?_) hr
  have hk := kind_nar n x h
  simp only [order_Clamp.l0]
  rw [if_pos (by omega), if_pos (by omega), if_pos (by omega), rd_nat, hi, Kind_eq h hx, w64 (by omega) (by omega)]
  simp only [Option.bind_some, Option.isNone_none, ↓reduceIte]
  by_cases g : narB n x = true
  · rw [if_pos (hk.mpr g), if_pos g]
  · rw [if_neg (fun g2 => g (hk.mp g2)), if_neg g]; rfl
theorem oClamp_ev {n p a b : Nat} (h : Wd n) (hp : p < 18446744073709551616) (ha : a < 18446744073709551616) (hb : b < 18446744073709551616) : Ev (fun k => order_Clamp.f k (n : Int) (p : Int) (a : Int) (b : Int)) (clampR n p a b) := by
  unfold order_Clamp.f clampR
  simp only [Option.bind_some]
  refine oClamp_step h 0 p hp rfl (by simp) rfl (by decide) _ ?_
  by_cases g1 : narB n p = true
  · rw [if_pos (Or.inl g1)]; exact Ev.congr (fun k => if_pos g1) (Ev.now _)
  refine Ev.congr (fun k => if_neg g1) (oClamp_step h 1 a ha rfl (by simp) rfl (by decide) _ ?_)
  by_cases g2 : narB n a = true
  · rw [if_pos (Or.inr (Or.inl g2))]; exact Ev.congr (fun k => if_pos g2) (Ev.now _)
  refine Ev.congr (fun k => if_neg g2) (oClamp_step h 2 b hb rfl (by simp) rfl (by decide) _ ?_)
  by_cases g3 : narB n b = true
  · rw [if_pos (Or.inr (Or.inr g3))]; exact Ev.congr (fun k => if_pos g3) (Ev.now _)
  rw [if_neg (by intro g; rcases g with g | g | g; exact g1 g; exact g2 g; exact g3 g)]
  refine Ev.congr (fun k => if_neg g3) (Ev.step (f := fun k => some (if ext b n < ext a n then (0, some 1) else ((minP n (maxP n p a) b : Int), none))) (fun k => ?_) (Ev.now _))
  simp only [order_Clamp.l0]
  rw [if_neg (by simp), oCmp_eq h ha hb]
  simp only [Option.bind_some]
  by_cases g : ext b n < ext a n
  · rw [if_pos (by unfold icmp; rw [if_neg (by omega), if_pos (by omega)]; decide), if_pos g]
  · rw [if_neg (by unfold icmp; split <;> (try split) <;> omega), if_neg g, oMax_eq h hp ha]
    simp only [Option.bind_some]
    rw [oMin_eq h (maxP_lt h _ _) hb]
    rfl
def clampB (n p a b : Nat) : Int × Int := if narB n p = true ∨ narB n a = true ∨ narB n b = true then (0, 9) else if ext b n < ext a n then (0, 1) else ((minP n (maxP n p a) b : Int), 0)
theorem rClamp_no {n p a b : Int} (h : NoW n) : Ev (fun k => vernierref08_Clamp.f k n p a b) (0, 2) := by
  unfold vernierref08_Clamp.f; exact Ev.bind (rCmps_no h) (Ev.congr (fun k => if_neg (by simp)) (Ev.now _))
theorem rClamp_ev {n p a b : Nat} (h : Wd n) (hp : p < 18446744073709551616) (ha : a < 18446744073709551616) (hb : b < 18446744073709551616) : Ev (fun k => vernierref08_Clamp.f k (n : Int) (p : Int) (a : Int) (b : Int)) (clampB n p a b) := by
  unfold vernierref08_Clamp.f clampB
  refine Ev.bind (rCmps_ev h ha hb) ?_
  simp only [↓reduceIte]
  refine Ev.bind (rnar_ev h hp) (Ev.bind (rnar_ev h ha) (Ev.bind (rnar_ev h hb) ?_))
  have yes : ∀ c : Int, Ev (fun k => vernierref08_Clamp.j0 k (n : Int) (p : Int) (a : Int) (b : Int) c true) (0, 9) := fun c => Ev.step (f := fun k => some (0, 9)) (fun k => by simp [vernierref08_Clamp.j0]) (Ev.now _)
  by_cases g1 : narB n p = true
  · rw [if_pos (Or.inl g1)]; exact Ev.congr (fun k => if_pos g1) (yes _)
  refine Ev.congr (fun k => if_neg g1) ?_
  by_cases g2 : narB n a = true
  · rw [if_pos (Or.inr (Or.inl g2))]; exact Ev.congr (fun k => if_pos g2) (yes _)
  refine Ev.congr (fun k => if_neg g2) ?_
  by_cases g3 : narB n b = true
  · rw [if_pos (Or.inr (Or.inr g3)), g3]; exact yes _
  rw [if_neg (by intro g; rcases g with g | g | g; exact g1 g; exact g2 g; exact g3 g)]
  have g3' : narB n b = false := by cases hq : narB n b; rfl; exact absurd hq g3
  rw [g3']
  refine Ev.step (f := fun k => if icmp (ext a n) (ext b n) > 0 then some (0, 1) else ((vernierref08_Max.f k (n : Int) (p : Int) (a : Int)).bind fun t => ((vernierref08_Min.f k (n : Int) t.1 (b : Int)).bind fun u => some (u.1, u.2)))) (fun k => by simp [vernierref08_Clamp.j0]) ?_
  by_cases g : ext b n < ext a n
  · rw [if_pos g]; exact Ev.congr (fun k => if_pos (by unfold icmp; rw [if_neg (by omega), if_pos (by omega)]; decide)) (Ev.now _)
  · rw [if_neg g]
    exact Ev.congr (fun k => if_neg (by unfold icmp; split <;> (try split) <;> omega)) (Ev.bind (rMax_ev h hp ha) (Ev.bind (rMin_ev h (maxP_lt h _ _) hb) (Ev.now _)))
theorem up08 : vernierlaw08_up.f = some true := by
  have e1 := oCmp_eq (n := 8) (a := 255) (b := 1) (Or.inl rfl) (by decide) (by decide)
  have e2 := oNext_eq (n := 8) (p := 255) (Or.inl rfl) (by decide)
  have e3 := oNeg_eq (n := 8) (p := 64) (Or.inl rfl)
  have c1 : order_Cmp.f 8 255 1 = some (-1, none) := e1
  have c2 : order_Next.f 8 255 = some (0, none) := e2
  have c3 : order_Neg.f 8 64 = some (192, none) := e3
  unfold vernierlaw08_up.f
  rw [c1]; simp only [Option.bind_some]
  rw [c2]; simp only [Option.bind_some]
  rw [c3]; rfl
end Go.Proofs.Yteekhbmffdmgjaa.M
