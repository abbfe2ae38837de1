/- The order of ranks is the order of values, NaR apart: by signs, scales and fractions. (For OrderValues.) -/
import Derived.Test.YtcokamomcnmocaaF0
import Derived.Test.YtcokamomcnmocaaOrd2
import Derived.Test.YtcokamomcnmocaaCod3
namespace Go.Proofs.Ytcokamomcnmocaa.M
set_option linter.unusedVariables false
set_option linter.unusedSimpArgs false
/-- A rank by the pattern's size and sign. -/
theorem ext_abs {n p : Nat} (h : Wd n) (hp : p < 18446744073709551616) (hk : kindN n p = 1) : ext p n = if topB p n = true then -((abN n p % 2 ^ (n - 1) : Nat) : Int) else ((abN n p % 2 ^ (n - 1) : Nat) : Int) := by
  have h1 : p % 2 ^ n ≠ 0 := by intro g; unfold kindN at hk; rw [if_pos g] at hk; omega
  have h2 : p % 2 ^ n ≠ 2 ^ (n - 1) := by intro g; unfold kindN at hk; rw [if_neg h1, if_pos g] at hk; omega
  unfold ext abN
  by_cases ht : topB p n = true
  · rw [if_pos ht, if_pos ht]
    unfold topB at ht
    rw [decide_eq_true_eq] at ht
    rw [if_pos ht]
    unfold ngN
    rcases h with rfl | rfl | rfl | rfl <;> simp only [Nat.reducePow, Nat.reduceSub] at * <;> omega
  · rw [if_neg ht, if_neg ht]
    unfold topB at ht
    rw [decide_eq_true_eq] at ht
    rw [if_neg ht]
    rcases h with rfl | rfl | rfl | rfl <;> simp only [Nat.reducePow, Nat.reduceSub] at * <;> omega
theorem ext_zero {n p : Nat} (h : Wd n) (hk : kindN n p = 0) : ext p n = 0 := by
  have h1 : p % 2 ^ n = 0 := by
    unfold kindN at hk
    by_cases g : p % 2 ^ n = 0
    · exact g
    · rw [if_neg g] at hk; split at hk <;> omega
  have hp : 0 < 2 ^ (n - 1) := Nat.pow_pos (by decide)
  unfold ext
  rw [h1, if_neg (by omega)]; rfl
theorem ext_least {n p : Nat} (h : Wd n) (hk : kindN n p = 2) : ext p n = -((2 ^ (n - 1) : Nat) : Int) := by
  have h1 : p % 2 ^ n = 2 ^ (n - 1) := by
    unfold kindN at hk
    by_cases g : p % 2 ^ n = 0
    · rw [if_pos g] at hk; omega
    · rw [if_neg g] at hk
      by_cases g2 : p % 2 ^ n = 2 ^ (n - 1)
      · exact g2
      · rw [if_neg g2] at hk; omega
  unfold ext
  rw [h1, if_pos (Nat.le_refl _)]
  rcases h with rfl | rfl | rfl | rfl <;> rfl
/-- The sign of what a pattern means; the comparison of two that are not NaR. -/
def sgI (n p : Nat) : Int := if kindN n p ≠ 1 then 0 else if topB p n = true then -1 else 1
def szN (n p : Nat) : Nat := abN n p % 2 ^ (n - 1)
theorem sz_val {n p q : Nat} (h : Wd n) : (szN n p < szN n q → scI (abN n p) (n - 1) < scI (abN n q) (n - 1) ∨ (scI (abN n p) (n - 1) = scI (abN n q) (n - 1) ∧ mtN (abN n p) (n - 1) < mtN (abN n q) (n - 1))) ∧
    (szN n p = szN n q → scI (abN n p) (n - 1) = scI (abN n q) (n - 1) ∧ mtN (abN n p) (n - 1) = mtN (abN n q) (n - 1)) := by
  have h1 := h.le
  have h2 := h.ge
  constructor
  · intro hl; exact val_lt (by omega) (by omega) hl
  · intro he
    unfold szN at he
    unfold scI mtN
    rw [rg_congr he, exN_congr he, fb_congr he, frN_congr he]
    exact ⟨rfl, rfl⟩
def vcmp (n p q : Nat) : Int := if sgI n p < sgI n q then -1 else if sgI n p > sgI n q then 1 else if sgI n p = 0 ∨ (scI (abN n p) (n - 1) = scI (abN n q) (n - 1) ∧ mtN (abN n p) (n - 1) = mtN (abN n q) (n - 1)) then 0 else if scI (abN n p) (n - 1) < scI (abN n q) (n - 1) ∨ (scI (abN n p) (n - 1) = scI (abN n q) (n - 1) ∧ mtN (abN n p) (n - 1) < mtN (abN n q) (n - 1)) then -(sgI n p) else sgI n p
theorem cmp_core {gp gq ep eq sp sq : Int} {mp mq zp zq : Nat} (EP : (ep = 0 ∧ gp = 0) ∨ (ep = -(zp : Int) ∧ gp = -1 ∧ 0 < zp) ∨ (ep = (zp : Int) ∧ gp = 1 ∧ 0 < zp)) (EQ : (eq = 0 ∧ gq = 0) ∨ (eq = -(zq : Int) ∧ gq = -1 ∧ 0 < zq) ∨ (eq = (zq : Int) ∧ gq = 1 ∧ 0 < zq))
    (l1 : zp < zq → sp < sq ∨ (sp = sq ∧ mp < mq)) (l2 : zp = zq → sp = sq ∧ mp = mq) (l3 : zq < zp → sq < sp ∨ (sq = sp ∧ mq < mp)) :
    (if gp < gq then (-1 : Int) else if gp > gq then 1 else if gp = 0 ∨ (sp = sq ∧ mp = mq) then 0 else if sp < sq ∨ (sp = sq ∧ mp < mq) then -gp else gp) = if ep < eq then -1 else if ep > eq then 1 else 0 := by
  rcases EP with ⟨a1, a2⟩ | ⟨a1, a2, a3⟩ | ⟨a1, a2, a3⟩
  · clear l1 l2 l3
    rcases EQ with ⟨b1, b2⟩ | ⟨b1, b2, b3⟩ | ⟨b1, b2, b3⟩
    · rw [a1, b1, a2, b2]; simp
    · rw [a1, b1, a2, b2, if_neg (by omega), if_pos (by omega), if_neg (by omega), if_pos (by omega)]
    · rw [a1, b1, a2, b2, if_pos (by omega), if_pos (by omega)]
  · rcases EQ with ⟨b1, b2⟩ | ⟨b1, b2, b3⟩ | ⟨b1, b2, b3⟩
    · rw [a1, b1, a2, b2, if_pos (by omega), if_pos (by omega)]
    · rw [a1, b1, a2, b2, if_neg (by omega), if_neg (by omega)]
      rcases Nat.lt_trichotomy zp zq with c | c | c
      · have k := l1 c
        clear l1 l2 l3
        rw [if_neg (by omega), if_pos k, if_neg (by omega), if_pos (by omega)]; rfl
      · have k := l2 c
        clear l1 l2 l3
        rw [if_pos (Or.inr k), if_neg (by omega), if_neg (by omega)]
      · have k := l3 c
        clear l1 l2 l3
        rw [if_neg (by omega), if_neg (by omega), if_pos (by omega)]
    · rw [a1, b1, a2, b2, if_pos (by omega), if_pos (by omega)]
  · rcases EQ with ⟨b1, b2⟩ | ⟨b1, b2, b3⟩ | ⟨b1, b2, b3⟩
    · rw [a1, b1, a2, b2, if_neg (by omega), if_pos (by omega), if_neg (by omega), if_pos (by omega)]
    · rw [a1, b1, a2, b2, if_neg (by omega), if_pos (by omega), if_neg (by omega), if_pos (by omega)]
    · rw [a1, b1, a2, b2, if_neg (by omega), if_neg (by omega)]
      rcases Nat.lt_trichotomy zp zq with c | c | c
      · have k := l1 c
        clear l1 l2 l3
        rw [if_neg (by omega), if_pos k, if_pos (by omega)]
      · have k := l2 c
        clear l1 l2 l3
        rw [if_pos (Or.inr k), if_neg (by omega), if_neg (by omega)]
      · have k := l3 c
        clear l1 l2 l3
        rw [if_neg (by omega), if_neg (by omega), if_neg (by omega), if_pos (by omega)]
theorem val_cases {n x : Nat} (h : Wd n) (hx : x < 18446744073709551616) (k : kindN n x = 0 ∨ kindN n x = 1) : (ext x n = 0 ∧ sgI n x = 0) ∨ (ext x n = -(szN n x : Int) ∧ sgI n x = -1 ∧ 0 < szN n x) ∨ (ext x n = (szN n x : Int) ∧ sgI n x = 1 ∧ 0 < szN n x) := by
  rcases k with k0 | k1
  · exact Or.inl ⟨ext_zero h k0, by unfold sgI; rw [if_pos (by omega)]⟩
  · have hz : 0 < szN n x := ab_pos h hx k1
    have he := ext_abs h hx k1
    have hs : sgI n x = if topB x n = true then -1 else 1 := by unfold sgI; rw [if_neg (by omega)]
    by_cases ht : topB x n = true
    · rw [if_pos ht] at he hs; exact Or.inr (Or.inl ⟨he, hs, hz⟩)
    · rw [if_neg ht] at he hs; exact Or.inr (Or.inr ⟨he, hs, hz⟩)
theorem vcmp_eq {n p q : Nat} (h : Wd n) (hp : p < 18446744073709551616) (hq : q < 18446744073709551616) (kp : kindN n p = 0 ∨ kindN n p = 1) (kq : kindN n q = 0 ∨ kindN n q = 1) :
    vcmp n p q = if ext p n < ext q n then -1 else if ext p n > ext q n then 1 else 0 := by
  obtain ⟨l1, l2⟩ := sz_val (p := p) (q := q) h
  obtain ⟨l3, _⟩ := sz_val (p := q) (q := p) h
  exact cmp_core (val_cases h hp kp) (val_cases h hq kq) l1 l2 l3
/-- The two's complement turns the rank round. -/
theorem ext_turn {n p : Nat} (h : Wd n) (hp : p < 18446744073709551616) (hk : kindN n p ≠ 2) : ext (ngN p) n = -(ext p n) := by
  have h2 : p % 2 ^ n ≠ 2 ^ (n - 1) := by
    intro g
    have g0 : p % 2 ^ n ≠ 0 := by have := Nat.pow_pos (n := n - 1) (show 0 < 2 by decide); omega
    unfold kindN at hk
    rw [if_neg g0, if_pos g] at hk
    exact hk rfl
  unfold ext ngN
  rcases h with rfl | rfl | rfl | rfl <;> simp only [Nat.reducePow, Nat.reduceSub] at * <;> split <;> split <;> omega
theorem kind_turn {n p : Nat} (h : Wd n) (hp : p < 18446744073709551616) : kindN n (ngN p) = kindN n p := by
  unfold kindN ngN
  rcases h with rfl | rfl | rfl | rfl <;> simp only [Nat.reducePow, Nat.reduceSub] at * <;> (repeat' split) <;> omega
end Go.Proofs.Ytcokamomcnmocaa.M
