/- The strings of numbers in arithmetic: the .. -/
import Derived.Test.YtjlaijaadclghaaOrd2Q
namespace Go.Proofs.Ytjlaijaadclghaa.M
set_option linter.all false
def yN (sc : Int) (m : Nat) : Nat := stX sc m * 2 ^ (256 - stL sc)
theorem run_small {sc : Int} (h0 : -248 ≤ sc) (h1 : sc ≤ 248) : 1 ≤ runS sc ∧ runS sc ≤ 63 := by unfold runS; split <;> omega
theorem y_head {sc : Int} {m : Nat} (h0 : -248 ≤ sc) (h1 : sc ≤ 248) : yN sc m = hsN sc * 2 ^ (253 - runS sc) + m % 2 ^ 127 * 2 ^ (126 - runS sc) := by
 have hr := run_small h0 h1
 unfold yN stX stL
 rw [show 256 - (runS sc + 130) = 126 - runS sc by omega, Nat.add_mul, Nat.mul_assoc, ← Nat.pow_add, show 127 + (126 - runS sc) = 253 - runS sc by omega]
theorem y_top {sc : Int} (h0 : -248 ≤ sc) (h1 : sc ≤ 248) : yN sc (2 ^ 127) = hsN sc * 2 ^ (253 - runS sc) := by
 rw [y_head h0 h1, Nat.mod_self, Nat.zero_mul, Nat.add_zero]
theorem hs_cases (sc : Int) : (0 ≤ sc / 4 ∧ runS sc = (sc / 4 + 1).toNat ∧ hsN sc = (2 ^ runS sc - 1) * 8 + (sc % 4).toNat) ∨ (sc / 4 < 0 ∧ runS sc = (-(sc / 4)).toNat ∧ hsN sc = 4 + (sc % 4).toNat) := by
 by_cases h : 0 ≤ sc / 4
 ·
  left
  refine ⟨h, by unfold runS; rw [if_pos h], ?_⟩
  unfold hsN hdN
  rw [decide_eq_true h, if_pos rfl]
  omega
 ·
  right
  refine ⟨by omega, by unfold runS; rw [if_neg h], ?_⟩
  unfold hsN hdN
  rw [decide_eq_false h, if_neg (by decide)]
theorem y_step {sc : Int} (h0 : -248 ≤ sc) (h1 : sc + 1 ≤ 248) : yN (sc + 1) (2 ^ 127) = (hsN sc + 1) * 2 ^ (253 - runS sc) := by
 rw [y_top (by omega) h1]
 have hr := run_small h0 (by omega)
 have hr2 := run_small (sc := sc + 1) (by omega) h1
 rcases hs_cases sc with ⟨a1, a2, a3⟩ | ⟨a1, a2, a3⟩ <;> rcases hs_cases (sc + 1) with ⟨b1, b2, b3⟩ | ⟨b1, b2, b3⟩
 ·
  by_cases he : sc % 4 = 3
  ·
   have e1 : runS (sc + 1) = runS sc + 1 := by omega
   have e2 : 2 ^ (253 - runS sc) = 2 * 2 ^ (253 - runS (sc + 1)) := by rw [← Nat.pow_succ']; congr 1; omega
   have e3 : 2 ^ runS (sc + 1) = 2 * 2 ^ runS sc := by rw [e1, Nat.pow_succ']
   have p : 0 < 2 ^ runS sc := Nat.pow_pos (by decide)
   rw [e2, a3, b3, e3, ← Nat.mul_assoc]
   congr 1
   omega
  ·
   have e1 : runS (sc + 1) = runS sc := by omega
   rw [a3, b3, e1]
   congr 1
   omega
 ·
  omega
 ·
  have e1 : runS (sc + 1) = runS sc := by omega
  have e2 : runS sc = 1 := by omega
  rw [a3, b3, e1, e2]
  congr 1
  omega
 ·
  by_cases he : sc % 4 = 3
  ·
   have e1 : runS (sc + 1) + 1 = runS sc := by omega
   have e2 : 2 ^ (253 - runS (sc + 1)) = 2 * 2 ^ (253 - runS sc) := by rw [← Nat.pow_succ']; congr 1; omega
   rw [e2, a3, b3, ← Nat.mul_assoc]
   congr 1
   omega
  ·
   have e1 : runS (sc + 1) = runS sc := by omega
   rw [a3, b3, e1]
   congr 1
   omega
theorem y_lt_next {sc : Int} (m : Nat) (h0 : -248 ≤ sc) (h1 : sc + 1 ≤ 248) : yN sc m < yN (sc + 1) (2 ^ 127) := by
 have hr := run_small h0 (by omega)
 rw [y_step h0 h1, y_head h0 (by omega), Nat.add_mul, Nat.one_mul]
 have h2 : m % 2 ^ 127 < 2 ^ 127 := Nat.mod_lt _ (Nat.pow_pos (by decide))
 have h3 : m % 2 ^ 127 * 2 ^ (126 - runS sc) < 2 ^ 127 * 2 ^ (126 - runS sc) := (Nat.mul_lt_mul_right (Nat.pow_pos (by decide))).mpr h2
 rw [← Nat.pow_add, show 127 + (126 - runS sc) = 253 - runS sc by omega] at h3
 omega
theorem y_ge_top {sc : Int} (m : Nat) (h0 : -248 ≤ sc) (h1 : sc ≤ 248) : yN sc (2 ^ 127) ≤ yN sc m := by
 rw [y_top h0 h1, y_head h0 h1]; omega
theorem y_lt_sc : ∀ (d : Nat) {sc sd : Int} (m l : Nat), sd = sc + 1 + d → -248 ≤ sc → sd ≤ 248 → yN sc m < yN sd l := by
 intro d
 induction d with
 | zero =>
  intro sc sd m l e h0 h1
  obtain rfl : sd = sc + 1 := by omega
  exact Nat.lt_of_lt_of_le (y_lt_next m h0 h1) (y_ge_top l (by omega) h1)
 | succ d ih =>
  intro sc sd m l e h0 h1
  have h2 := ih (sc := sc) (sd := sc + 1 + d) m (2 ^ 127) rfl h0 (by omega)
  have h3 := y_lt_next (sc := sc + 1 + d) (2 ^ 127) (by omega) (by omega)
  obtain rfl : sd = sc + 1 + d + 1 := by omega
  exact Nat.lt_of_lt_of_le (Nat.lt_trans h2 h3) (y_ge_top l (by omega) h1)
theorem y_lt_of_sc {sc sd : Int} (m l : Nat) (h : sc < sd) (h0 : -248 ≤ sc) (h1 : sd ≤ 248) : yN sc m < yN sd l :=
 y_lt_sc (sd - sc - 1).toNat m l (by omega) h0 h1
theorem y_lt_of_m {sc : Int} {m l : Nat} (h : m % 2 ^ 127 < l % 2 ^ 127) (h0 : -248 ≤ sc) (h1 : sc ≤ 248) : yN sc m < yN sc l := by
 rw [y_head h0 h1, y_head h0 h1]
 exact Nat.add_lt_add_left ((Nat.mul_lt_mul_right (Nat.pow_pos (by decide))).mpr h) _
def rhN (n Y : Nat) (rest : Bool) : Nat := if leftN (Y % 2 ^ (257 - n)) (2 ^ (256 - n)) rest = 3 ∨ (leftN (Y % 2 ^ (257 - n)) (2 ^ (256 - n)) rest = 2 ∧ Y / 2 ^ (257 - n) % 2 = 1) then Y / 2 ^ (257 - n) + 1 else Y / 2 ^ (257 - n)
theorem cutM_y {n : Nat} {sc : Int} (m : Nat) (rest : Bool) (hn : Wd n) (h0 : -248 ≤ sc) (h1 : sc ≤ 248) : cutM n sc m rest = (yN sc m / 2 ^ (257 - n), leftN (yN sc m % 2 ^ (257 - n)) (2 ^ (256 - n)) rest) := by
 have hr := run_small h0 h1
 have hn1 := hn.ge
 have hn2 := hn.le
 have hp : 0 < 2 ^ (256 - stL sc) := Nat.pow_pos (by decide)
 have hL : stL sc = runS sc + 130 := rfl
 have e1 : 2 ^ (257 - n) = 2 ^ (stL sc - (n - 1)) * 2 ^ (256 - stL sc) := by rw [← Nat.pow_add, show stL sc - (n - 1) + (256 - stL sc) = 257 - n by omega]
 have e2 : 2 ^ (256 - n) = 2 ^ (stL sc - n) * 2 ^ (256 - stL sc) := by rw [← Nat.pow_add, show stL sc - n + (256 - stL sc) = 256 - n by omega]
 unfold cutM yN
 rw [e1, e2, Nat.mul_div_mul_right _ _ hp, Nat.mul_mod_mul_right, Nat.mul_comm _ (2 ^ (256 - stL sc)), Nat.mul_comm (2 ^ (stL sc - n)), left_mul hp]
theorem pw_half {n : Nat} (hn : Wd n) : 2 ^ (257 - n) = 2 * 2 ^ (256 - n) := by rw [← Nat.pow_succ', show (256 - n).succ = 257 - n by have := hn.le; omega]
theorem left_three {x h : Nat} {rest : Bool} : leftN x h rest = 3 ↔ (h < x ∨ (x = h ∧ rest = true)) := by
 unfold leftN
 by_cases c : h < x ∨ (x = h ∧ rest = true)
 ·
  rw [if_pos c]; simp [c]
 ·
  rw [if_neg c]
  constructor
  ·
   intro g; exfalso; split at g
   ·
    omega
   ·
    split at g <;> omega
  ·
   intro g; exact absurd g c
theorem left_two {x h : Nat} {rest : Bool} : leftN x h rest = 2 ↔ (x = h ∧ rest = false) := by
 unfold leftN
 by_cases c : h < x ∨ (x = h ∧ rest = true)
 ·
  rw [if_pos c]
  constructor
  ·
   intro g; omega
  ·
   rintro ⟨g1, g2⟩
   rcases c with c | ⟨_, c⟩
   ·
    omega
   ·
    rw [g2] at c; cases c
 ·
  rw [if_neg c]
  by_cases d : x = h
  ·
   rw [if_pos d]
   have : rest = false := by
    cases rest
    ·
     rfl
    ·
     exact absurd (Or.inr ⟨d, rfl⟩) c
   simp [d, this]
  ·
   rw [if_neg d]
   constructor
   ·
    intro g; exfalso; split at g <;> omega
   ·
    rintro ⟨g, _⟩; exact absurd g d
def upN (n Y : Nat) (rest : Bool) : Prop := 2 ^ (256 - n) < Y % 2 ^ (257 - n) ∨ (Y % 2 ^ (257 - n) = 2 ^ (256 - n) ∧ (rest = true ∨ Y / 2 ^ (257 - n) % 2 = 1))
theorem rh_up {n Y : Nat} {rest : Bool} (h : upN n Y rest) : rhN n Y rest = Y / 2 ^ (257 - n) + 1 := by
 unfold rhN
 rw [if_pos]
 rw [left_three, left_two]
 rcases h with h | ⟨h, h2 | h2⟩
 ·
  exact Or.inl (Or.inl h)
 ·
  exact Or.inl (Or.inr ⟨h, h2⟩)
 ·
  cases rest
  ·
   exact Or.inr ⟨⟨h, rfl⟩, h2⟩
  ·
   exact Or.inl (Or.inr ⟨h, rfl⟩)
theorem rh_down {n Y : Nat} {rest : Bool} (h : ¬ upN n Y rest) : rhN n Y rest = Y / 2 ^ (257 - n) := by
 unfold rhN
 rw [if_neg]
 rw [left_three, left_two]
 rintro ((a | ⟨a, b⟩) | ⟨⟨a, b⟩, c⟩)
 ·
  exact h (Or.inl a)
 ·
  exact h (Or.inr ⟨a, Or.inl b⟩)
 ·
  exact h (Or.inr ⟨a, Or.inr c⟩)
theorem rh_ge (n Y : Nat) (rest : Bool) : Y / 2 ^ (257 - n) ≤ rhN n Y rest := by
 by_cases h : upN n Y rest
 ·
  rw [rh_up h]; omega
 ·
  rw [rh_down h]; exact Nat.le_refl _
theorem rh_le (n Y : Nat) (rest : Bool) : rhN n Y rest ≤ Y / 2 ^ (257 - n) + 1 := by
 by_cases h : upN n Y rest
 ·
  rw [rh_up h]; exact Nat.le_refl _
 ·
  rw [rh_down h]; omega
theorem rh_exact {n q : Nat} (hn : Wd n) : rhN n (q * 2 ^ (257 - n)) false = q := by
 have hp : 0 < 2 ^ (257 - n) := Nat.pow_pos (by decide)
 have hp2 : 0 < 2 ^ (256 - n) := Nat.pow_pos (by decide)
 rw [rh_down, Nat.mul_div_cancel _ hp]
 unfold upN
 rw [Nat.mul_mod_left]
 omega
theorem y_least {n : Nat} (hn : Wd n) : yN (-((4 * n - 8 : Nat) : Int)) (2 ^ 127) = 1 * 2 ^ (257 - n) := by
 have h1 := hn.ge
 have h2 := hn.le
 rw [y_top (by omega) (by omega)]
 rcases hs_cases (-((4 * n - 8 : Nat) : Int)) with ⟨a1, a2, a3⟩ | ⟨a1, a2, a3⟩
 ·
  omega
 ·
  rw [a3, show (-((4 * n - 8 : Nat) : Int) % 4).toNat = 0 by omega, show runS (-((4 * n - 8 : Nat) : Int)) = n - 2 by omega, show 257 - n = 2 + (253 - (n - 2)) by omega, Nat.pow_add]
  omega
theorem y_most {n : Nat} (hn : Wd n) : yN ((4 * n - 8 : Nat) : Int) (2 ^ 127) = (2 ^ (n - 1) - 1) * 2 ^ (257 - n) := by
 have h1 := hn.ge
 have h2 := hn.le
 rw [y_top (by omega) (by omega)]
 rcases hs_cases ((4 * n - 8 : Nat) : Int) with ⟨a1, a2, a3⟩ | ⟨a1, a2, a3⟩
 ·
  rw [a3, show (((4 * n - 8 : Nat) : Int) % 4).toNat = 0 by omega, show runS ((4 * n - 8 : Nat) : Int) = n - 1 by omega, Nat.add_zero, Nat.mul_assoc]
  congr 1
  rw [show 257 - n = 3 + (253 - (n - 1)) by omega, Nat.pow_add]
 ·
  omega
theorem rdP_mid {n : Nat} {sc : Int} {m : Nat} {rest : Bool} (hn : Wd n) (h0 : -((4 * n - 8 : Nat) : Int) ≤ sc) (h1 : sc < ((4 * n - 8 : Nat) : Int)) : rdP n sc m rest = rhN n (yN sc m) rest := by
 have g1 := hn.ge
 have g2 := hn.le
 unfold rdP cutW
 rw [if_neg (show ¬ ((4 * n - 8 : Nat) : Int) ≤ sc by omega)]
 by_cases c : sc < -((4 * n - 8 : Nat) : Int) ∨ (sc = -((4 * n - 8 : Nat) : Int) ∧ m % 2 ^ 127 = 0 ∧ rest = false)
 ·
  rw [if_pos c]
  rcases c with c | ⟨c1, c2, c3⟩
  ·
   omega
  ·
   have e : yN sc m = 1 * 2 ^ (257 - n) := by
    rw [← y_least hn, ← c1, y_head (by omega) (by omega), y_top (by omega) (by omega), c2, Nat.zero_mul, Nat.add_zero]
   rw [e, c3, rh_exact hn]
   rfl
 ·
  rw [if_neg c, cutM_y m rest hn (by omega) (by omega)]
  unfold rhN
  simp only
theorem rdP_high {n : Nat} {sc : Int} {m : Nat} {rest : Bool} (hn : Wd n) (h1 : ((4 * n - 8 : Nat) : Int) ≤ sc) : rdP n sc m rest = 2 ^ (n - 1) - 1 := by
 unfold rdP cutW
 rw [if_pos h1]
 rfl
theorem rdP_low {n : Nat} {sc : Int} {m : Nat} {rest : Bool} (hn : Wd n) (h1 : sc < -((4 * n - 8 : Nat) : Int)) : rdP n sc m rest = 1 := by
 unfold rdP cutW
 rw [if_neg (show ¬ ((4 * n - 8 : Nat) : Int) ≤ sc by omega), if_pos (Or.inl h1)]
 rfl
theorem mid_range {n : Nat} {sc : Int} {m : Nat} {rest : Bool} (hn : Wd n) (h0 : -((4 * n - 8 : Nat) : Int) ≤ sc) (h1 : sc < ((4 * n - 8 : Nat) : Int)) : 1 ≤ rhN n (yN sc m) rest ∧ rhN n (yN sc m) rest ≤ 2 ^ (n - 1) - 1 := by
 have g1 := hn.ge
 have g2 := hn.le
 have hp : 0 < 2 ^ (257 - n) := Nat.pow_pos (by decide)
 constructor
 ·
  refine Nat.le_trans ?_ (rh_ge n _ rest)
  rw [Nat.le_div_iff_mul_le hp, ← y_least hn]
  rcases Int.lt_or_eq_of_le h0 with c | c
  ·
   exact Nat.le_of_lt (y_lt_of_sc _ _ c (by omega) (by omega))
  ·
   rw [← c]; exact y_ge_top _ (by omega) (by omega)
 ·
  refine Nat.le_trans (rh_le n _ rest) ?_
  have := y_lt_of_sc m (2 ^ 127) h1 (by omega) (by omega)
  rw [y_most hn] at this
  have := (Nat.div_lt_iff_lt_mul hp).mpr this
  omega
theorem rdP_range {n : Nat} (hn : Wd n) (sc : Int) (m : Nat) (rest : Bool) : 1 ≤ rdP n sc m rest ∧ rdP n sc m rest ≤ 2 ^ (n - 1) - 1 := by
 have h2 : 2 ^ 7 ≤ 2 ^ (n - 1) := Nat.pow_le_pow_right (by decide) (by have := hn.ge; omega)
 by_cases c1 : ((4 * n - 8 : Nat) : Int) ≤ sc
 ·
  rw [rdP_high hn c1]; omega
 ·
  by_cases c2 : sc < -((4 * n - 8 : Nat) : Int)
  ·
   rw [rdP_low hn c2]; omega
  ·
   rw [rdP_mid hn (by omega) (by omega)]; exact mid_range hn (by omega) (by omega)
end Go.Proofs.Ytjlaijaadclghaa.M
