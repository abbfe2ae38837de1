/- How many bits a natural number has. -/
import Derived.Test.YtjlaijaadclghaaA8Q
namespace Go.Proofs.Ytjlaijaadclghaa.M
set_option linter.all false
def blen (x : Nat) : Nat := if x = 0 then 0 else x.log2 + 1
theorem lt_blen (x : Nat) : x < 2 ^ blen x := by
 unfold blen
 split
 ·
  rename_i h; subst h; decide
 ·
  exact Nat.lt_log2_self
theorem blen_le {x : Nat} (h : 0 < x) : 2 ^ (blen x - 1) ≤ x := by
 unfold blen
 rw [if_neg (by omega), Nat.add_sub_cancel]
 exact Nat.log2_self_le (by omega)
theorem blen_pos {x : Nat} (h : 0 < x) : 0 < blen x := by unfold blen; rw [if_neg (by omega)]; omega
theorem blen_unique {x n : Nat} (h1 : x < 2 ^ n) (h2 : n = 0 ∨ 2 ^ (n - 1) ≤ x) : blen x = n := by
 rcases Nat.eq_zero_or_pos x with h | h
 ·
  subst h
  rcases h2 with rfl | h2
  ·
   rfl
  ·
   have : 0 < 2 ^ (n - 1) := Nat.pow_pos (by decide)
   omega
 ·
  have h3 := blen_le h
  have h4 := lt_blen x
  have h5 := blen_pos h
  rcases h2 with rfl | h2
  ·
   simp at h1; omega
  ·
   rcases Nat.lt_trichotomy (blen x) n with h6 | h6 | h6
   ·
    have : 2 ^ blen x ≤ 2 ^ (n - 1) := Nat.pow_le_pow_right (by decide) (by omega)
    omega
   ·
    exact h6
   ·
    have : 2 ^ n ≤ 2 ^ (blen x - 1) := Nat.pow_le_pow_right (by decide) (by omega)
    omega
end Go.Proofs.Ytjlaijaadclghaa.M

namespace Go.Proofs.Ytjlaijaadclghaa.M
open RowKit YtjlaijaadclghaaW PrintWords PrintLast PrintMore F
set_option linter.all false
def wN : List Nat → Nat
 | [] => 0
 | x :: xs => x + 18446744073709551616 * wN xs
def Ws (l : List Nat) : Prop := ∀ x ∈ l, x < 18446744073709551616
theorem Ws.tail {x : Nat} {l : List Nat} (h : Ws (x :: l)) : Ws l := fun y hy => h y (by simp [hy])
theorem Ws.head {x : Nat} {l : List Nat} (h : Ws (x :: l)) : x < 18446744073709551616 := h x (by simp)
theorem Ws.append {a b : List Nat} (h : Ws a) (k : Ws b) : Ws (a ++ b) := fun y hy => by
 rcases List.mem_append.mp hy with g | g
 ·
  exact h y g
 ·
  exact k y g
theorem Ws.take {l : List Nat} (h : Ws l) (n : Nat) : Ws (l.take n) := fun y hy => h y (List.mem_of_mem_take hy)
theorem Ws.drop {l : List Nat} (h : Ws l) (n : Nat) : Ws (l.drop n) := fun y hy => h y (List.mem_of_mem_drop hy)
theorem Ws.zeros (n : Nat) : Ws (List.replicate n 0) := fun y hy => by rw [List.eq_of_mem_replicate hy]; decide
theorem wN_append : ∀ (a b : List Nat), wN (a ++ b) = wN a + 18446744073709551616 ^ a.length * wN b
 | [], b => by simp [wN]
 | x :: a, b => by
  rw [List.cons_append, wN, wN, wN_append a b, List.length_cons, Nat.pow_succ]
  grind
theorem wN_lt : ∀ {l : List Nat}, Ws l → wN l < 18446744073709551616 ^ l.length
 | [], _ => by simp [wN]
 | x :: l, h => by
  have ih := wN_lt h.tail
  have hx := h.head
  rw [wN, List.length_cons, Nat.pow_succ]
  generalize 18446744073709551616 ^ l.length = p at *
  omega
theorem wN_zeros : ∀ n : Nat, wN (List.replicate n 0) = 0
 | 0 => rfl
 | n + 1 => by rw [List.replicate_succ, wN, wN_zeros n]
theorem wN_head : ∀ l : List Nat, wN l = l.headD 0 + 18446744073709551616 * wN l.tail
 | [] => rfl
 | x :: l => rfl
theorem opC_length (tk : Bool) : ∀ (xs vs : List Nat) (c : Nat), (opC tk xs vs c).length = xs.length
 | [], _, _ => rfl
 | x :: xs, vs, c => by rw [opC, List.length_cons, List.length_cons, opC_length tk xs]
theorem opC_ws (tk : Bool) : ∀ (xs vs : List Nat) (c : Nat), Ws (opC tk xs vs c)
 | [], _, _ => fun _ h => by cases h
 | x :: xs, vs, c => fun y hy => by
  rw [opC] at hy
  rcases List.mem_cons.mp hy with rfl | hy
  ·
   unfold stepW; split <;> exact Nat.mod_lt _ (by decide)
  ·
   exact opC_ws tk xs _ _ y hy
def sgT (tk : Bool) : Int := if tk = true then -1 else 1
theorem opC_val (tk : Bool) : ∀ (xs vs : List Nat) (c : Nat), Ws xs → Ws vs → c ≤ 1 → ∃ k : Int, (wN (opC tk xs vs c) : Int) = (wN xs : Int) + sgT tk * ((wN vs : Int) + c) + k * (18446744073709551616 ^ xs.length : Nat)
 | [], vs, c, _, _, _ => ⟨-(sgT tk * ((wN vs : Int) + c)), by simp [opC, wN]; exact (Int.add_right_neg _).symm⟩
 | x :: xs, vs, c, hx, hv, hc => by
  have hx0 := hx.head
  have hv0 : vs.headD 0 < 18446744073709551616 := by
   cases vs with
   | nil => decide
   | cons v vs => exact hv.head
  have hvt : Ws vs.tail := by
   cases vs with
   | nil => exact fun _ h => by cases h
   | cons v vs => exact hv.tail
  have hcy := stepCy_le (tk := tk) hx0 hv0 hc
  obtain ⟨k, hk⟩ := opC_val tk xs vs.tail (stepCy tk x (vs.headD 0) c) hx.tail hvt hcy
  refine ⟨k, ?_⟩
  rw [opC, wN, wN, List.length_cons, Nat.pow_succ]
  have hst : (stepW tk x (vs.headD 0) c : Int) = (x : Int) + sgT tk * ((vs.headD 0 : Int) + c) - sgT tk * 18446744073709551616 * (stepCy tk x (vs.headD 0) c : Int) := by
   unfold stepW stepCy sgT
   cases tk
   ·
    simp only [Bool.false_eq_true, if_false]
    generalize vs.headD 0 = v at *
    omega
   ·
    simp only [if_true]
    generalize vs.headD 0 = v at *
    split <;> omega
  have hvs := wN_head vs
  rw [hvs]
  generalize 18446744073709551616 ^ xs.length = p at hk ⊢
  generalize stepCy tk x (vs.headD 0) c = y at hk hst
  generalize stepW tk x (vs.headD 0) c = z at hst ⊢
  generalize wN (opC tk xs vs.tail y) = o at hk ⊢
  generalize vs.headD 0 = h0 at hst ⊢
  generalize wN vs.tail = t at hk ⊢
  generalize wN xs = u at hk ⊢
  generalize sgT tk = g at *
  have hB : ((18446744073709551616 : Nat) : Int) = 18446744073709551616 := rfl
  simp only [Int.natCast_add, Int.natCast_mul, hB]
  rw [hk, hst]
  grind
theorem three_val {hi lo s : Nat} (hlo : lo < 18446744073709551616) (hhi : hi < 18446744073709551616) (hs : s < 64) : wN (three hi lo s) = (hi * 18446744073709551616 + lo) * 2 ^ s ∧ Ws (three hi lo s) := by
 have hp : 2 ^ s * 2 ^ (64 - s) = 18446744073709551616 := by rw [← Nat.pow_add, show s + (64 - s) = 64 by omega]
 have e1 : ∀ x : Nat, x / 2 / 2 ^ (63 - s) = x / 2 ^ (64 - s) := fun x => by rw [Nat.div_div_eq_div_mul, ← Nat.pow_succ', show (63 - s).succ = 64 - s by omega]
 have e2 : ∀ x : Nat, x * 2 ^ s = 18446744073709551616 * (x / 2 ^ (64 - s)) + x * 2 ^ s % 18446744073709551616 := fun x => by
  have h1 := Nat.div_add_mod (x * 2 ^ s) 18446744073709551616
  have h2 : x * 2 ^ s / 18446744073709551616 = x / 2 ^ (64 - s) := by
   rw [← hp, Nat.mul_comm x, Nat.mul_div_mul_left _ _ (Nat.pow_pos (by decide))]
  rw [h2] at h1; exact h1.symm
 have l1 : lo / 2 ^ (64 - s) < 2 ^ s := by rw [Nat.div_lt_iff_lt_mul (Nat.pow_pos (by decide)), hp]; exact hlo
 have l2 : hi / 2 ^ (64 - s) < 2 ^ s := by rw [Nat.div_lt_iff_lt_mul (Nat.pow_pos (by decide)), hp]; exact hhi
 have hle : 2 ^ s ≤ 2 ^ 63 := Nat.pow_le_pow_right (by decide) (by omega)
 rw [show (2 : Nat) ^ 63 = 9223372036854775808 by decide] at hle
 have l3 : hi * 2 ^ s % 18446744073709551616 + lo / 2 ^ (64 - s) < 18446744073709551616 := by
  rw [← hp, Nat.mul_comm hi, Nat.mul_mod_mul_left]
  have : hi % 2 ^ (64 - s) < 2 ^ (64 - s) := Nat.mod_lt _ (Nat.pow_pos (by decide))
  have h4 := Nat.mul_le_mul_left (2 ^ s) (Nat.succ_le_of_lt this)
  rw [Nat.mul_succ] at h4
  omega
 have f1 := e2 lo
 have f2 := e2 hi
 unfold three
 rw [e1, e1]
 refine ⟨?_, ?_⟩
 ·
  simp only [wN]
  rw [Nat.add_mul, Nat.mul_right_comm, f1, f2]
  have m1 : (18446744073709551616 * (lo / 2 ^ (64 - s)) + lo * 2 ^ s % 18446744073709551616) % 18446744073709551616 = lo * 2 ^ s % 18446744073709551616 := by omega
  have m2 : (18446744073709551616 * (hi / 2 ^ (64 - s)) + hi * 2 ^ s % 18446744073709551616) % 18446744073709551616 = hi * 2 ^ s % 18446744073709551616 := by omega
  rw [m1, m2]
  omega
 ·
  intro y hy
  simp only [List.mem_cons, List.not_mem_nil, or_false] at hy
  rcases hy with rfl | rfl | rfl
  ·
   exact Nat.mod_lt _ (by decide)
  ·
   exact l3
  ·
   omega
def Stands (m : Nat) (ws : List Nat) (S : Int) : Prop := ∃ k : Int, (wN (ws.take m) : Int) = S + k * (18446744073709551616 ^ m : Nat)
theorem enter_length (tk : Bool) {m : Nat} {ws : List Nat} (hi lo up : Nat) (hl : ws.length = 16) (h1 : m ≤ 16) (hup : up / 64 < m) : (enterW tk m ws hi lo up).length = 16 := by
 unfold enterW
 rw [List.length_append, List.length_append, opC_length, List.length_take, List.length_drop, List.length_take, List.length_drop]
 omega
theorem enter_ws (tk : Bool) {m : Nat} {ws : List Nat} (hi lo up : Nat) (h : Ws ws) : Ws (enterW tk m ws hi lo up) := ((h.take _).append (opC_ws _ _ _ _)).append (h.drop _)
theorem enter_drop (tk : Bool) {m : Nat} {ws : List Nat} (hi lo up : Nat) (hl : ws.length = 16) (h1 : m ≤ 16) (hup : up / 64 < m) : (enterW tk m ws hi lo up).drop m = ws.drop m := by
 unfold enterW
 refine List.drop_left' ?_
 rw [List.length_append, opC_length, List.length_take, List.length_drop, List.length_take]
 omega
theorem enter_take (tk : Bool) {m : Nat} {ws : List Nat} (hi lo up : Nat) (hl : ws.length = 16) (h1 : m ≤ 16) (hup : up / 64 < m) : (enterW tk m ws hi lo up).take m = ws.take (up / 64) ++ opC tk ((ws.take m).drop (up / 64)) (three hi lo (up % 64)) 0 := by
 unfold enterW
 refine List.take_left' ?_
 rw [List.length_append, opC_length, List.length_take, List.length_drop, List.length_take]
 omega
theorem enter_stands (tk : Bool) {m : Nat} {ws : List Nat} {hi lo up : Nat} {S : Int} (hl : ws.length = 16) (h1 : m ≤ 16) (hup : up / 64 < m) (hw : Ws ws) (hlo : lo < 18446744073709551616) (hhi : hi < 18446744073709551616) (h : Stands m ws S) :
  Stands m (enterW tk m ws hi lo up) (S + sgT tk * (((hi * 18446744073709551616 + lo) * 2 ^ up : Nat) : Int)) := by
 obtain ⟨k, hk⟩ := h
 obtain ⟨v, vw⟩ := three_val (s := up % 64) hlo hhi (Nat.mod_lt _ (by decide))
 obtain ⟨j, hj⟩ := opC_val tk ((ws.take m).drop (up / 64)) (three hi lo (up % 64)) 0 ((hw.take _).drop _) vw (by decide)
 refine ⟨k + j, ?_⟩
 rw [enter_take tk hi lo up hl h1 hup, wN_append]
 have hsplit : ws.take m = ws.take (up / 64) ++ (ws.take m).drop (up / 64) := by
  have := (List.take_append_drop (up / 64) (ws.take m)).symm
  rw [List.take_take, Nat.min_eq_left (by omega)] at this
  exact this
 have hA : (ws.take (up / 64)).length = up / 64 := by rw [List.length_take]; omega
 have hB : ((ws.take m).drop (up / 64)).length = m - up / 64 := by rw [List.length_drop, List.length_take]; omega
 rw [hsplit, wN_append, hA] at hk
 rw [hA]
 rw [hB, v] at hj
 have hpm : 18446744073709551616 ^ m = 18446744073709551616 ^ (up / 64) * 18446744073709551616 ^ (m - up / 64) := by rw [← Nat.pow_add, show up / 64 + (m - up / 64) = m by omega]
 have hpu : 2 ^ up = 18446744073709551616 ^ (up / 64) * 2 ^ (up % 64) := by
  rw [show (18446744073709551616 : Nat) = 2 ^ 64 by decide, ← Nat.pow_mul, ← Nat.pow_add, Nat.div_add_mod]
 rw [hpm] at hk ⊢
 rw [hpu]
 generalize (hi * 18446744073709551616 + lo) = P at *
 generalize 18446744073709551616 ^ (up / 64) = a at *
 generalize 18446744073709551616 ^ (m - up / 64) = b at *
 generalize 2 ^ (up % 64) = c at *
 generalize wN (List.take (up / 64) ws) = x at *
 generalize wN (List.drop (up / 64) (List.take m ws)) = y at *
 generalize wN (opC tk (List.drop (up / 64) (List.take m ws)) (three hi lo (up % 64)) 0) = z at *
 generalize sgT tk = g at *
 push_cast at hk hj ⊢
 rw [hj]
 grind
theorem turn_ws (xs : List Nat) (c : Nat) : Ws (turnC xs c) := turnC_lt xs c
theorem turn_val : ∀ (xs : List Nat) (c : Nat), Ws xs → c ≤ 1 → ∃ k : Int, (wN (turnC xs c) : Int) = -(wN xs : Int) - 1 + c + k * (18446744073709551616 ^ xs.length : Nat)
 | [], c, _, _ => ⟨1 - c, by simp [turnC, wN]; omega⟩
 | x :: xs, c, hx, hc => by
  have hx0 := hx.head
  obtain ⟨k, hk⟩ := turn_val xs ((18446744073709551615 - x + c) / 18446744073709551616) hx.tail (by omega)
  refine ⟨k, ?_⟩
  rw [turnC, wN, wN, List.length_cons, Nat.pow_succ]
  have hst : (((18446744073709551615 - x + c) % 18446744073709551616 : Nat) : Int) = 18446744073709551615 - (x : Int) + c - 18446744073709551616 * (((18446744073709551615 - x + c) / 18446744073709551616 : Nat) : Int) := by omega
  generalize (18446744073709551615 - x + c) % 18446744073709551616 = r at *
  generalize (18446744073709551615 - x + c) / 18446744073709551616 = q at *
  generalize 18446744073709551616 ^ xs.length = p at hk ⊢
  have hB : ((18446744073709551616 : Nat) : Int) = 18446744073709551616 := rfl
  simp only [Int.natCast_add, Int.natCast_mul, hB]
  rw [hk, hst]
  grind
theorem neg_length {m : Nat} {ws : List Nat} (hl : ws.length = 16) (h1 : m ≤ 16) : (negW m ws).length = 16 := by
 unfold negW
 rw [List.length_append, turnC_length, List.length_take, List.length_drop]; omega
theorem neg_take {m : Nat} {ws : List Nat} (hl : ws.length = 16) (h1 : m ≤ 16) : (negW m ws).take m = turnC (ws.take m) 1 := by
 unfold negW
 refine List.take_left' ?_
 rw [turnC_length, List.length_take]; omega
theorem neg_stands {m : Nat} {ws : List Nat} {S : Int} (hl : ws.length = 16) (h1 : m ≤ 16) (hw : Ws ws) (h : Stands m ws S) : Stands m (negW m ws) (-S) := by
 obtain ⟨k, hk⟩ := h
 obtain ⟨j, hj⟩ := turn_val (ws.take m) 1 (hw.take _) (by decide)
 refine ⟨j - k, ?_⟩
 rw [neg_take hl h1]
 rw [show (ws.take m).length = m by rw [List.length_take]; omega] at hj
 generalize (18446744073709551616 ^ m : Nat) = p at *
 grind
end Go.Proofs.Ytjlaijaadclghaa.M
