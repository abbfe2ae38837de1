/- What the program's fifth layer computes at .. -/
import Derived.Test.YtjlaijaadclghaaF3Q
import Derived.Test.YtjlaijaadclghaaF11Q
import Derived.Test.YtjlaijaadclghaaRndQ
import Derived.Test.YtjlaijaadclghaaF4Q
namespace Go.Proofs.Ytjlaijaadclghaa.M
open RowKit YtjlaijaadclghaaW PrintWords PrintLast PrintMore F
set_option linter.all false
def Wd (n : Nat) : Prop := n = 8 ∨ n = 16 ∨ n = 32 ∨ n = 64
theorem Wd.le {n : Nat} (h : Wd n) : n ≤ 64 := by unfold Wd at h; omega
theorem Wd.ge {n : Nat} (h : Wd n) : 8 ≤ n := by unfold Wd at h; omega
theorem Wd.pos {n : Nat} (h : Wd n) : 0 < n := by unfold Wd at h; omega
def NoW (a : Int) : Prop := a ≠ 8 ∧ a ≠ 16 ∧ a ≠ 32 ∧ a ≠ 64
theorem width_or (a : Int) : (∃ n : Nat, a = (n : Int) ∧ Wd n) ∨ (a ≠ 8 ∧ a ≠ 16 ∧ a ≠ 32 ∧ a ≠ 64) := by
 by_cases h : a = 8 ∨ a = 16 ∨ a = 32 ∨ a = 64
 ·
  left
  refine ⟨a.toNat, by omega, ?_⟩
  unfold Wd; omega
 ·
  right; omega
theorem is_w {n : Nat} (h : Wd n) : shape_is.f (n : Int) = some true := by
 rcases h with rfl | rfl | rfl | rfl <;> rfl
theorem is_no {a : Int} (h : a ≠ 8 ∧ a ≠ 16 ∧ a ≠ 32 ∧ a ≠ 64) : shape_is.f a = some false := by
 unfold shape_is.f; rw [if_neg h.1, if_neg h.2.1, if_neg h.2.2.1, if_neg h.2.2.2]
theorem Is_w {n : Nat} (h : Wd n) : vernierref05_Is.f (n : Int) = some true := by
 rcases h with rfl | rfl | rfl | rfl <;> rfl
theorem Is_no {a : Int} (h : a ≠ 8 ∧ a ≠ 16 ∧ a ≠ 32 ∧ a ≠ 64) : vernierref05_Is.f a = some false := by
 unfold vernierref05_Is.f
 rw [if_neg h.1, if_neg h.2.1, if_neg h.2.2.1]
 congr 1
 rw [beq_eq_false_iff_ne]; exact h.2.2.2
theorem Fold_no {a p : Int} (h : a ≠ 8 ∧ a ≠ 16 ∧ a ≠ 32 ∧ a ≠ 64) : shape_Fold.f a p = some (0, some 2) := by unfold shape_Fold.f; rw [is_no h]; rfl
theorem Fold_eq {n p : Nat} (h : Wd n) (hp : p < 18446744073709551616) : shape_Fold.f (n : Int) (p : Int) = some (((p % 2 ^ n : Nat) : Int), none) := by
 unfold shape_Fold.f
 rw [is_w h]
 simp only [Option.bind_some, ↓reduceIte]
 rw [Mask_eq h.le]
 simp only [Option.bind_some]
 rw [and_mask hp h.le]
theorem Fold05_ev {n p : Nat} (h : Wd n) (hp : p < 18446744073709551616) : Ev (fun k => vernierref05_Fold.f k (n : Int) (p : Int)) (((p % 2 ^ n : Nat) : Int), 0) := by
 unfold vernierref05_Fold.f
 rw [Is_w h]
 simp only [Option.bind_some, ↓reduceIte]
 exact Ev.bind (Text_ev hp h.le) (Ev.bind (Number_ev' h.le) (Ev.now _))
theorem shl_one {n : Nat} (h : n < 64) : shl .u64 1 (n : Int) = ((2 ^ n : Nat) : Int) := by
 have e := shl_nat 1 n
 have hlt : 2 ^ n < 18446744073709551616 := by rw [← p64']; exact Nat.pow_lt_pow_right (by decide) h
 rw [Nat.one_mul, Nat.mod_eq_of_lt hlt] at e
 exact e
theorem pred_w {n : Nat} (h : Wd n) : wrap64 ((n : Int) - 1) = ((n - 1 : Nat) : Int) := by have := h.le; have := h.pos; rw [w64 (by omega) (by omega)]; omega
theorem Of_eq {n : Nat} (h : Wd n) : shape_Of.f (n : Int) = some ((n : Int), ((2 ^ (n - 1) - 1 : Nat) : Int), 1, ((2 ^ (n - 1) : Nat) : Int), ((4 * n - 8 : Nat) : Int), none) := by
 have h1 := h.le
 have h2 := h.ge
 have hp := pow_le64 (show n - 1 ≤ 64 by omega)
 have hp0 : 0 < 2 ^ (n - 1) := Nat.pow_pos (by decide)
 unfold shape_Of.f
 rw [is_w h]
 simp only [Option.bind_some, ↓reduceIte]
 rw [pred_w h, if_pos (by omega), shl_one (by omega), u64s (by omega) (by omega), w64 (x := 4 * (n : Int)) (by omega) (by omega), w64 (by omega) (by omega)]
 congr 2
 congr 1
 ·
  omega
 ·
  congr 3; omega
theorem Power_l0 {n : Nat} (hn : n ≤ 63) : ∀ d i : Nat, n - i ≤ d → i ≤ n → Ev (fun k => vernierref05_Power.l0 k (n : Int) ((2 ^ i : Nat) : Int) (i : Int)) ((2 ^ n : Nat) : Int) := by
 intro d
 induction d with
 | zero =>
  intro i hd hi
  obtain rfl : i = n := by omega
  refine Ev.step (f := fun _ => some ((2 ^ i : Nat) : Int)) (fun k => ?_) (Ev.now _)
  simp only [vernierref05_Power.l0]; rw [if_neg (by omega)]
 | succ d ih =>
  intro i hd hi
  by_cases h : i < n
  ·
   refine Ev.step (f := fun k => vernierref05_Power.l0 k (n : Int) ((2 ^ (i + 1) : Nat) : Int) ((i + 1 : Nat) : Int)) (fun k => ?_) (ih (i + 1) (by omega) (by omega))
   have hlt : 2 ^ (i + 1) < 18446744073709551616 := by rw [← p64']; exact Nat.pow_lt_pow_right (by decide) (by omega)
   simp only [vernierref05_Power.l0]
   rw [if_pos (by omega), w64 (by omega) (by omega)]
   rw [Nat.pow_succ] at hlt ⊢
   generalize 2 ^ i = p at *
   rw [u64s (by omega) (by omega)]
   congr 1
   omega
  ·
   exact ih i (by omega) hi
theorem Power_ev {n : Nat} (hn : n ≤ 63) : Ev (fun k => vernierref05_Power.f k (n : Int)) ((2 ^ n : Nat) : Int) := Power_l0 hn n 0 (by omega) (by omega)
def kindN (n p : Nat) : Int := if p % 2 ^ n = 0 then 0 else if p % 2 ^ n = 2 ^ (n - 1) then 2 else 1
theorem Kind_no {a p : Int} (h : a ≠ 8 ∧ a ≠ 16 ∧ a ≠ 32 ∧ a ≠ 64) : shape_Kind.f a p = some (0, some 2) := by unfold shape_Kind.f; rw [Fold_no h]; rfl
theorem Kind_eq {n p : Nat} (h : Wd n) (hp : p < 18446744073709551616) : shape_Kind.f (n : Int) (p : Int) = some (kindN n p, none) := by
 have h1 := h.le
 have h2 := h.pos
 unfold shape_Kind.f kindN
 rw [Fold_eq h hp]
 simp only [Option.bind_some, Option.isNone_none, ↓reduceIte]
 rw [pred_w h, shl_one (by omega)]
 by_cases g1 : p % 2 ^ n = 0
 ·
  rw [if_pos (by omega), if_pos g1]
 ·
  rw [if_neg (by omega), if_neg g1, if_pos (by omega)]
  by_cases g2 : p % 2 ^ n = 2 ^ (n - 1)
  ·
   rw [if_pos (by omega), if_pos g2]
  ·
   rw [if_neg (by omega), if_neg g2]
theorem Kind05_ev {n p : Nat} (h : Wd n) (hp : p < 18446744073709551616) : Ev (fun k => vernierref05_Kind.f k (n : Int) (p : Int)) (kindN n p, 0) := by
 have h1 := h.le
 unfold vernierref05_Kind.f kindN
 refine Ev.bind (Fold05_ev h hp) ?_
 simp only [↓reduceIte, pred_w h]
 by_cases g1 : p % 2 ^ n = 0
 ·
  rw [if_pos g1]; exact Ev.congr (fun k => if_pos (by omega)) (Ev.now _)
 ·
  rw [if_neg g1]
  refine Ev.congr (fun k => if_neg (by omega)) (Ev.bind (Power_ev (by omega)) ?_)
  by_cases g2 : p % 2 ^ n = 2 ^ (n - 1)
  ·
   rw [if_pos g2]; exact Ev.congr (fun k => if_pos (by omega)) (Ev.now _)
  ·
   rw [if_neg g2]; exact Ev.congr (fun k => if_neg (by omega)) (Ev.now _)
theorem Rank_eq {n p : Nat} (h : Wd n) (hp : p < 18446744073709551616) : shape_Rank.f (n : Int) (p : Int) = some (ext p n, none) := by
 unfold shape_Rank.f
 rw [is_w h]
 simp only [Option.bind_some, ↓reduceIte]
 rw [Extend_eq hp h.pos h.le]
 rfl
theorem half_lt {n : Nat} (h : Wd n) : 2 ^ (n - 1) < 18446744073709551616 := by rw [← p64']; have := h.le; have := h.pos; exact Nat.pow_lt_pow_right (by decide) (by omega)
end Go.Proofs.Ytjlaijaadclghaa.M

namespace Go.Proofs.Ytjlaijaadclghaa.M
set_option linter.all false
def lfN (x w : Nat) : Nat := w - runN x w - 1
def ebN (x w : Nat) : Nat := min (lfN x w) 2
def fbN (x w : Nat) : Nat := lfN x w - ebN x w
theorem lfN_lt {x w : Nat} (hw : 0 < w) : lfN x w < w := by unfold lfN; omega
theorem lf_split (x w : Nat) : lfN x w = fbN x w + ebN x w := by unfold fbN ebN; omega
def baseN (x w : Nat) : Nat := if topB x w = true then (2 ^ runN x w - 1) * 2 ^ (w - runN x w) else if runN x w < w then 2 ^ (w - 1 - runN x w) else 0
theorem pow_cut2 {a b : Nat} (h : a ≤ b) : 2 ^ b = 2 ^ a * 2 ^ (b - a) := by rw [← Nat.pow_add]; congr 1; omega
theorem mod_pow_mod (x : Nat) {a b : Nat} (h : a ≤ b) : x % 2 ^ b % 2 ^ a = x % 2 ^ a := by rw [pow_cut2 h, Nat.mod_mul_right_mod]
theorem ones_base {r w : Nat} (h : r ≤ w) : (2 ^ r - 1) * 2 ^ (w - r) = 2 ^ w - 2 ^ (w - r) := by
 rw [Nat.sub_mul, Nat.one_mul, ← Nat.pow_add]; congr 2; omega
theorem base_split {x w : Nat} (hw : 0 < w) : x % 2 ^ w = baseN x w + x % 2 ^ lfN x w := by
 have hlt := Nat.mod_lt x (Nat.pow_pos (n := w) (show 0 < 2 by decide))
 have hb := blen_left (x := x) hw
 have hr : w - runN x w = blen (left x w) := by unfold runN; omega
 have hlf : lfN x w = blen (left x w) - 1 := by unfold lfN; omega
 rw [← mod_pow_mod x (show lfN x w ≤ w by unfold lfN; omega)]
 unfold baseN
 by_cases ht : topB x w = true
 ·
  rw [if_pos ht, ones_base (runN_le x w), hr, hlf]
  have hl : left x w = 2 ^ w - 1 - x % 2 ^ w := by unfold topB at ht; rw [decide_eq_true_eq] at ht; unfold left; rw [if_pos ht]
  generalize hm : x % 2 ^ w = m at *
  rcases Nat.eq_zero_or_pos (left x w) with h0 | h0
  ·
   rw [h0, show blen 0 - 1 = 0 from rfl, show blen 0 = 0 from rfl, Nat.pow_zero, Nat.mod_one]; omega
  ·
   have h1 := blen_le h0
   have h2 := lt_blen (left x w)
   have h3 := blen_pos h0
   generalize blen (left x w) = b at *
   have e1 : 2 ^ b = 2 * 2 ^ (b - 1) := by rw [← Nat.pow_succ']; congr 1; omega
   have e2 : 2 ^ w = 2 ^ b * 2 ^ (w - b) := pow_cut2 (by omega)
   have h4 : 0 < 2 ^ (w - b) := Nat.pow_pos (by decide)
   have e3 : 2 ^ w - 2 ^ b = 2 ^ (b - 1) * (2 * (2 ^ (w - b) - 1)) := by
    rw [e2, e1]; generalize 2 ^ (w - b) = q at *; obtain ⟨t, rfl⟩ : ∃ t, q = t + 1 := ⟨q - 1, by omega⟩
    rw [Nat.add_sub_cancel]; generalize 2 ^ (b - 1) = p
    rw [show 2 * p * (t + 1) = 2 * p * t + 2 * p by grind, Nat.add_sub_cancel]; grind
   have h5 : 2 ^ b ≤ 2 ^ w := Nat.pow_le_pow_right (by decide) (by omega)
   have e4 : m = 2 ^ (b - 1) * (2 * (2 ^ (w - b) - 1)) + (2 ^ b - 1 - left x w) := by rw [← e3]; omega
   have e5 : m % 2 ^ (b - 1) = 2 ^ b - 1 - left x w := by
    rw [e4, Nat.mul_add_mod, Nat.mod_eq_of_lt (by omega)]
   rw [e5, e3]; exact e4
 ·
  rw [if_neg ht, hlf]
  have hl : left x w = x % 2 ^ w := by unfold topB at ht; rw [decide_eq_true_eq] at ht; unfold left; rw [if_neg ht]
  have hr2 : w - 1 - runN x w = blen (left x w) - 1 := by omega
  rw [hr2]
  generalize hm : x % 2 ^ w = m at *
  rcases Nat.eq_zero_or_pos m with h0 | h0
  ·
   subst h0
   rw [Nat.zero_mod, if_neg (by unfold runN; rw [hl]; rw [show blen 0 = 0 from rfl]; omega)]
  ·
   rw [hl] at hb hr ⊢
   have h1 := blen_le h0
   have h2 := lt_blen m
   have h3 := blen_pos h0
   rw [if_pos (by omega)]
   have e1 : 2 ^ blen m = 2 * 2 ^ (blen m - 1) := by rw [← Nat.pow_succ']; congr 1; omega
   generalize 2 ^ (blen m - 1) = q at *
   have : m % q = m - q := by rw [Nat.mod_eq_sub_mod h1, Nat.mod_eq_of_lt (by omega)]
   omega
def eN (x w : Nat) : Nat := x / 2 ^ fbN x w % 2 ^ ebN x w
def frN (x w : Nat) : Nat := x % 2 ^ fbN x w
theorem eN_lt (x w : Nat) : eN x w < 2 ^ ebN x w := Nat.mod_lt _ (Nat.pow_pos (by decide))
theorem eN_lt4 (x w : Nat) : eN x w < 4 := Nat.lt_of_lt_of_le (eN_lt x w) (show 2 ^ ebN x w ≤ 2 ^ 2 from Nat.pow_le_pow_right (by decide) (by unfold ebN; omega))
theorem frN_lt (x w : Nat) : frN x w < 2 ^ fbN x w := Nat.mod_lt _ (Nat.pow_pos (by decide))
theorem tail_split (x w : Nat) : x % 2 ^ lfN x w = eN x w * 2 ^ fbN x w + frN x w := by
 unfold eN frN
 rw [lf_split, Nat.pow_add, Nat.mod_mul, Nat.mul_comm, Nat.add_comm]
theorem whole_split {x w : Nat} (hw : 0 < w) : x % 2 ^ w = baseN x w + eN x w * 2 ^ fbN x w + frN x w := by
 rw [base_split hw, tail_split, Nat.add_assoc]
def exN (x w : Nat) : Nat := eN x w * 2 ^ (2 - ebN x w)
theorem exN_lt (x w : Nat) : exN x w < 4 := by
 have h1 := eN_lt x w
 have h2 : ebN x w ≤ 2 := by unfold ebN; omega
 have e : 4 = 2 ^ ebN x w * 2 ^ (2 - ebN x w) := by rw [← Nat.pow_add, show ebN x w + (2 - ebN x w) = 2 by omega]
 unfold exN
 rw [e]
 exact Nat.mul_lt_mul_of_pos_right h1 (Nat.pow_pos (by decide))
def rgI (x w : Nat) : Int := if topB x w = true then (runN x w : Int) - 1 else -(runN x w : Int)
def scI (x w : Nat) : Int := 4 * rgI x w + (exN x w : Int)
def mtN (x w : Nat) : Nat := 9223372036854775808 + frN x w * 2 ^ (63 - fbN x w)
theorem fb_le {x w : Nat} (hw : 0 < w) : fbN x w ≤ w - 2 := by
 have := runN_pos (x := x) hw
 unfold fbN lfN; omega
theorem mtN_lt {x w : Nat} (hw : 0 < w) (h : w ≤ 63) : frN x w * 2 ^ (63 - fbN x w) < 9223372036854775808 := by
 have h1 := frN_lt x w
 have h2 := fb_le (x := x) hw
 have e : 9223372036854775808 = 2 ^ fbN x w * 2 ^ (63 - fbN x w) := by rw [← Nat.pow_add, show fbN x w + (63 - fbN x w) = 63 by omega]
 rw [e]
 exact Nat.mul_lt_mul_of_pos_right h1 (Nat.pow_pos (by decide))
end Go.Proofs.Ytjlaijaadclghaa.M
