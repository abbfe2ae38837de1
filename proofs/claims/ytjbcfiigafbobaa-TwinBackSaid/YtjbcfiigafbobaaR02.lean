/- What the reference of the second layer computes, at numbers of 128 bits. -/
import Derived.Test.YtjbcfiigafbobaaF7
import Derived.Test.YtjbcfiigafbobaaR00b
namespace Go.Proofs.Ytjbcfiigafbobaa.M
open Go.RowKit Go.Proofs.YtjbcfiigafbobaaW.PrintWords Go.Proofs.YtjbcfiigafbobaaW.PrintLast Go.Proofs.YtjbcfiigafbobaaW.PrintMore Go.Proofs.Ytjbcfiigafbobaa.F
set_option linter.unusedVariables false
set_option linter.unusedSimpArgs false

/-- The upper and the lower word of a number. -/
def hi (s : Nat) : Int := ((s / 18446744073709551616 % 18446744073709551616 : Nat) : Int)
def lo (s : Nat) : Int := ((s % 18446744073709551616 : Nat) : Int)
/-- The number that two words are. -/
def tw (h l : Nat) : Nat := h * 18446744073709551616 + l
theorem tw_lt {h l : Nat} (hh : h < 18446744073709551616) (hl : l < 18446744073709551616) : tw h l < 340282366920938463463374607431768211456 := by unfold tw; omega
theorem hi_tw {h l : Nat} (hh : h < 18446744073709551616) (hl : l < 18446744073709551616) : hi (tw h l) = (h : Int) := by unfold hi tw; congr 1; omega
theorem lo_tw {h l : Nat} (hl : l < 18446744073709551616) : lo (tw h l) = (l : Int) := by unfold lo tw; congr 1; omega
theorem tw_eq {s : Nat} (h : s < 340282366920938463463374607431768211456) : tw (s / 18446744073709551616 % 18446744073709551616) (s % 18446744073709551616) = s := by unfold tw; omega
theorem p64 : (2 : Nat) ^ 64 = 18446744073709551616 := by decide
theorem p128 : (2 : Nat) ^ 128 = 340282366920938463463374607431768211456 := by decide
theorem len_le {x n : Nat} (h : x < 16777216 ^ n) (m : Nat) (hm : n < m) : (digs x).length < m := Nat.lt_of_le_of_lt (digs_length_le h) hm

theorem Of02_ev {h l : Nat} (hh : h < 18446744073709551616) (hl : l < 18446744073709551616) : Ev (fun k => vernierref02_Of.f k (h : Int) (l : Int)) (digs (tw h l)) := by
  unfold vernierref02_Of.f
  have l1 := len_le (x := h) (n := 3) (by omega) 100000000 (by decide)
  refine Ev.bind (Of_ev hh) (Ev.bind (Shl_ev (k := 64) l1 (by decide)) (Ev.bind (Of_ev hl) (Ev.bind (Add_ev ?_ ?_) ?_)))
  · rw [p64]; exact len_le (n := 6) (by omega) _ (by decide)
  · exact len_le (n := 3) (by omega) _ (by decide)
  · rw [p64]; exact Ev.now _
theorem Told_ev {s : Nat} (hs : (digs s).length < 100000000) : Ev (fun k => vernierref02_Told.f k (digs s)) (hi s, lo s) := by
  unfold vernierref02_Told.f
  refine Ev.bind (Shr_ev (k := 64) hs (by decide)) (Ev.bind (Word_ev _) (Ev.bind (Word_ev _) ?_))
  rw [p64]; exact Ev.now _
theorem one_digs : ([1] : List Int) = digs 1 := by rw [digs_pos 1 (by decide)]; rfl
theorem all_ev : Ev (fun k => vernierref02_all.f k) (digs 340282366920938463463374607431768211456) := by
  unfold vernierref02_all.f
  rw [one_digs]
  refine Ev.bind (Shl_ev (x := 1) (k := 128) (len_le (n := 1) (by decide) _ (by decide)) (by decide)) ?_
  rw [p128, Nat.one_mul]; exact Ev.now _
theorem cmp_ge (x y : Nat) : decide (cmp x y ≥ 0) = decide (y ≤ x) := by unfold cmp; split <;> (try split) <;> simp <;> omega
theorem cmp_lt (x y : Nat) : decide (cmp x y < 0) = decide (x < y) := by unfold cmp; split <;> (try split) <;> simp <;> omega
theorem cmp_le (x y : Nat) : decide (cmp x y ≤ 0) = decide (x ≤ y) := by unfold cmp; split <;> (try split) <;> simp <;> omega
theorem Cmp02_ev {ah al bh bl : Nat} (h0 : ah < 18446744073709551616) (h1 : al < 18446744073709551616) (h2 : bh < 18446744073709551616) (h3 : bl < 18446744073709551616) : Ev (fun k => vernierref02_Cmp.f k (ah : Int) (al : Int) (bh : Int) (bl : Int)) (cmp (tw ah al) (tw bh bl)) := by
  have ha := tw_lt h0 h1
  have hb := tw_lt h2 h3
  unfold vernierref02_Cmp.f
  refine Ev.bind (Of02_ev h0 h1) (Ev.bind (Of02_ev h2 h3) (Ev.bind (Cmp_ev (len_le (n := 6) (by omega) _ (by decide)) (len_le (n := 6) (by omega) _ (by decide))) (Ev.now _)))
theorem Add02_ev {ah al bh bl : Nat} (h0 : ah < 18446744073709551616) (h1 : al < 18446744073709551616) (h2 : bh < 18446744073709551616) (h3 : bl < 18446744073709551616) : Ev (fun k => vernierref02_Add.f k (ah : Int) (al : Int) (bh : Int) (bl : Int)) (hi (tw ah al + tw bh bl), lo (tw ah al + tw bh bl), decide (340282366920938463463374607431768211456 ≤ tw ah al + tw bh bl)) := by
  have ha := tw_lt h0 h1
  have hb := tw_lt h2 h3
  unfold vernierref02_Add.f
  refine Ev.bind (Of02_ev h0 h1) (Ev.bind (Of02_ev h2 h3) (Ev.bind (Add_ev (len_le (n := 6) (by omega) _ (by decide)) (len_le (n := 6) (by omega) _ (by decide)))
    (Ev.bind (Told_ev (len_le (n := 7) (by omega) _ (by decide))) (Ev.bind all_ev (Ev.bind (Cmp_ev (len_le (n := 7) (by omega) _ (by decide)) (len_le (n := 7) (by decide) _ (by decide))) ?_)))))
  rw [cmp_ge]; exact Ev.now _
theorem Sub02_ev {ah al bh bl : Nat} (h0 : ah < 18446744073709551616) (h1 : al < 18446744073709551616) (h2 : bh < 18446744073709551616) (h3 : bl < 18446744073709551616) : Ev (fun k => vernierref02_Sub.f k (ah : Int) (al : Int) (bh : Int) (bl : Int)) (hi (tw ah al + 340282366920938463463374607431768211456 - tw bh bl), lo (tw ah al + 340282366920938463463374607431768211456 - tw bh bl), decide (tw ah al < tw bh bl)) := by
  have ha := tw_lt h0 h1
  have hb := tw_lt h2 h3
  unfold vernierref02_Sub.f
  refine Ev.bind (Of02_ev h0 h1) (Ev.bind all_ev (Ev.bind (Add_ev (len_le (n := 6) (by omega) _ (by decide)) (len_le (n := 7) (by decide) _ (by decide)))
    (Ev.bind (Of02_ev h2 h3) (Ev.bind (Sub_ev (by omega) (len_le (n := 7) (by omega) _ (by decide))) (Ev.bind (Told_ev (len_le (n := 7) (by omega) _ (by decide)))
    (Ev.bind (Of02_ev h0 h1) (Ev.bind (Of02_ev h2 h3) (Ev.bind (Cmp_ev (len_le (n := 6) (by omega) _ (by decide)) (len_le (n := 6) (by omega) _ (by decide))) ?_))))))))
  rw [cmp_lt]; exact Ev.now _
theorem Mul02_ev {x y : Nat} (hx : x < 18446744073709551616) (hy : y < 18446744073709551616) : Ev (fun k => vernierref02_Mul.f k (x : Int) (y : Int)) (hi (x * y), lo (x * y)) := by
  unfold vernierref02_Mul.f
  have hxy : x * y < 16777216 ^ 6 := Nat.lt_of_lt_of_le (Nat.mul_lt_mul'' hx hy) (by decide)
  exact Ev.bind (Of_ev hx) (Ev.bind (Of_ev hy) (Ev.bind (Mul_ev (len_le (n := 3) (by omega) _ (by decide)) (len_le (n := 3) (by omega) _ (by decide)))
    (Ev.bind (Told_ev (len_le hxy _ (by decide))) (Ev.now _))))
theorem Shl02_j0 {ah al : Nat} (h0 : ah < 18446744073709551616) (h1 : al < 18446744073709551616) {k : Nat} (hk : k ≤ 128) : Ev (fun n => vernierref02_Shl.j0 n (k : Int) (ah : Int) (al : Int)) (hi (tw ah al * 2 ^ k), lo (tw ah al * 2 ^ k), decide (340282366920938463463374607431768211456 ≤ tw ah al * 2 ^ k), 0) := by
  have ha := tw_lt h0 h1
  have hb : tw ah al * 2 ^ k < 16777216 ^ 12 := by
    have : 2 ^ k ≤ 2 ^ 128 := Nat.pow_le_pow_right (by decide) hk
    exact Nat.lt_of_lt_of_le (Nat.mul_lt_mul_of_lt_of_le ha this (Nat.pow_pos (by decide))) (by decide)
  have l1 := len_le (x := tw ah al) (n := 6) (by omega) 100000000 (by decide)
  refine Ev.step (fun n => by simp only [vernierref02_Shl.j0]; rfl) (Ev.bind (Of02_ev h0 h1) (Ev.bind (Shl_ev (k := k) l1 (by omega)) (Ev.bind (Told_ev (len_le hb _ (by decide))) (Ev.bind all_ev (Ev.bind (Cmp_ev (len_le hb _ (by decide)) (len_le (x := 340282366920938463463374607431768211456) (n := 7) (by decide) _ (by decide))) ?_)))))
  rw [cmp_ge]; exact Ev.now _
theorem Shl02_ev {ah al : Nat} (h0 : ah < 18446744073709551616) (h1 : al < 18446744073709551616) {k : Nat} : Ev (fun n => vernierref02_Shl.f n (ah : Int) (al : Int) (k : Int)) (hi (tw ah al * 2 ^ (min k 128)), lo (tw ah al * 2 ^ (min k 128)), decide (340282366920938463463374607431768211456 ≤ tw ah al * 2 ^ (min k 128)), 0) := by
  unfold vernierref02_Shl.f
  by_cases h : 128 < k
  · refine Ev.congr (fun n => ?_) (Shl02_j0 (k := min k 128) h0 h1 (Nat.min_le_right _ _))
    rw [if_neg (by omega), if_pos (by omega), Nat.min_eq_right (by omega)]; rfl
  · refine Ev.congr (fun n => ?_) (Shl02_j0 (k := min k 128) h0 h1 (Nat.min_le_right _ _))
    rw [if_neg (by omega), if_neg (by omega), Nat.min_eq_left (by omega)]
theorem Shr02_j0 {ah al : Nat} (h0 : ah < 18446744073709551616) (h1 : al < 18446744073709551616) {k : Nat} (hk : k ≤ 128) : Ev (fun n => vernierref02_Shr.j0 n (k : Int) (ah : Int) (al : Int)) (hi (tw ah al / 2 ^ k), lo (tw ah al / 2 ^ k), decide (tw ah al % 2 ^ k ≠ 0), 0) := by
  have ha := tw_lt h0 h1
  have l1 := len_le (x := tw ah al) (n := 6) (by omega) 100000000 (by decide)
  have hb : tw ah al / 2 ^ k < 16777216 ^ 6 := Nat.lt_of_le_of_lt (Nat.div_le_self _ _) (by omega)
  refine Ev.step (fun n => by simp only [vernierref02_Shr.j0]; rfl) (Ev.bind (Of02_ev h0 h1) (Ev.bind (Shr_ev (k := k) l1 (by omega)) (Ev.bind (Told_ev (len_le hb _ (by decide))) (Ev.bind (Low_ev (k := k) l1 (by omega)) ?_))))
  exact Ev.now _
theorem Shr02_ev {ah al : Nat} (h0 : ah < 18446744073709551616) (h1 : al < 18446744073709551616) {k : Nat} : Ev (fun n => vernierref02_Shr.f n (ah : Int) (al : Int) (k : Int)) (hi (tw ah al / 2 ^ (min k 128)), lo (tw ah al / 2 ^ (min k 128)), decide (tw ah al % 2 ^ (min k 128) ≠ 0), 0) := by
  unfold vernierref02_Shr.f
  by_cases h : 128 < k
  · refine Ev.congr (fun n => ?_) (Shr02_j0 (k := min k 128) h0 h1 (Nat.min_le_right _ _))
    rw [if_neg (by omega), if_pos (by omega), Nat.min_eq_right (by omega)]; rfl
  · refine Ev.congr (fun n => ?_) (Shr02_j0 (k := min k 128) h0 h1 (Nat.min_le_right _ _))
    rw [if_neg (by omega), if_neg (by omega), Nat.min_eq_left (by omega)]
theorem Len02_ev {ah al : Nat} (h0 : ah < 18446744073709551616) (h1 : al < 18446744073709551616) : Ev (fun n => vernierref02_Len.f n (ah : Int) (al : Int)) ((blen (tw ah al) : Nat) : Int) := by
  have ha := tw_lt h0 h1
  unfold vernierref02_Len.f
  exact Ev.bind (Of02_ev h0 h1) (Ev.bind (Bits_ev (len_le (n := 6) (by omega) _ (by decide))) (Ev.now _))
theorem blen128 {ah al : Nat} (h0 : ah < 18446744073709551616) (h1 : al < 18446744073709551616) : blen (tw ah al) ≤ 128 := by
  have ha := tw_lt h0 h1
  rw [← p128] at ha
  rcases Nat.eq_zero_or_pos (tw ah al) with h | h
  · rw [h]; decide
  · have := blen_le h
    rcases Nat.lt_or_ge 128 (blen (tw ah al)) with h6 | h6
    · have : 2 ^ 128 ≤ 2 ^ (blen (tw ah al) - 1) := Nat.pow_le_pow_right (by decide) (by omega)
      omega
    · exact h6
theorem Norm02_ev {ah al : Nat} (h0 : ah < 18446744073709551616) (h1 : al < 18446744073709551616) : Ev (fun n => vernierref02_Norm.f n (ah : Int) (al : Int)) (if tw ah al = 0 then (0, 0, 0) else (hi (tw ah al * 2 ^ (128 - blen (tw ah al))), lo (tw ah al * 2 ^ (128 - blen (tw ah al))), ((128 - blen (tw ah al) : Nat) : Int))) := by
  have ha := tw_lt h0 h1
  have hb := blen128 h0 h1
  unfold vernierref02_Norm.f
  refine Ev.bind (Len02_ev h0 h1) ?_
  by_cases h : tw ah al = 0
  · rw [if_pos h]
    exact Ev.congr (fun n => if_pos (by rw [h]; rfl)) (Ev.now _)
  · rw [if_neg h]
    have hp := blen_pos (show 0 < tw ah al by omega)
    have l1 := len_le (x := tw ah al) (n := 6) (by omega) 100000000 (by decide)
    have hb2 : tw ah al * 2 ^ (128 - blen (tw ah al)) < 16777216 ^ 12 := by
      have : 2 ^ (128 - blen (tw ah al)) ≤ 2 ^ 128 := Nat.pow_le_pow_right (by decide) (by omega)
      exact Nat.lt_of_lt_of_le (Nat.mul_lt_mul_of_lt_of_le ha this (Nat.pow_pos (by decide))) (by decide)
    refine Ev.congr (fun n => if_neg (by omega)) ?_
    rw [w64 (x := 128 - ((blen (tw ah al) : Nat) : Int)) (by omega) (by omega), show 128 - ((blen (tw ah al) : Nat) : Int) = ((128 - blen (tw ah al) : Nat) : Int) by omega]
    exact Ev.bind (Of02_ev h0 h1) (Ev.bind (Shl_ev l1 (by omega)) (Ev.bind (Told_ev (len_le hb2 _ (by decide))) (Ev.now _)))
end Go.Proofs.Ytjbcfiigafbobaa.M
