/- A sum's sign, its size and its top: what .. -/
import Derived.Test.YtjlaijaadclghaaB1Q
import Derived.Test.YtjlaijaadclghaaRnd4Q
namespace Go.Proofs.Ytjlaijaadclghaa.M
open RowKit YtjlaijaadclghaaW PrintWords PrintLast PrintMore F
set_option linter.all false
theorem wN_snoc {l : List Nat} {k : Nat} (h : k < l.length) : wN (l.take (k + 1)) = wN (l.take k) + 18446744073709551616 ^ k * l.getD k 0 := by
 have e : l.take (k + 1) = l.take k ++ [l.getD k 0] := by
  rw [List.take_add_one, List.getD_eq_getElem?_getD, List.getElem?_eq_getElem h]
  rfl
 rw [e, wN_append, List.length_take, Nat.min_eq_left (by omega)]
 simp [wN]
theorem getD_ws {l : List Nat} (h : Ws l) (k : Nat) : l.getD k 0 < 18446744073709551616 := by
 rw [List.getD_eq_getElem?_getD]
 by_cases c : k < l.length
 ·
  rw [List.getElem?_eq_getElem c]; exact h _ (List.getElem_mem c)
 ·
  rw [List.getElem?_eq_none (by omega)]; decide
theorem stands_small {m : Nat} {ws : List Nat} {S : Int} (h0 : 1 ≤ m) (h1 : m ≤ 16) (hl : ws.length = 16) (hw : Ws ws) (h : Stands m ws S) (hS : 2 * S.natAbs < 18446744073709551616 ^ m) :
  (S < 0 ↔ 9223372036854775808 ≤ ws.getD (m - 1) 0) ∧ (0 ≤ S → (wN (ws.take m) : Int) = S) ∧ (S < 0 → (wN (ws.take m) : Int) = S + (18446744073709551616 ^ m : Nat)) := by
 obtain ⟨k, hk⟩ := h
 have hlen : (ws.take m).length = m := by rw [List.length_take]; omega
 have hlt := wN_lt (hw.take m)
 rw [hlen] at hlt
 have hsn := wN_snoc (l := ws) (k := m - 1) (by omega)
 rw [show m - 1 + 1 = m by omega] at hsn
 have hlo := wN_lt (hw.take (m - 1))
 rw [List.length_take, Nat.min_eq_left (by omega)] at hlo
 have hpm : 18446744073709551616 ^ m = 18446744073709551616 ^ (m - 1) * 18446744073709551616 := by rw [← Nat.pow_succ]; congr 1; omega
 have hg := getD_ws hw (m - 1)
 have hp0 : 0 < 18446744073709551616 ^ m := Nat.pow_pos (by decide)
 generalize ws.getD (m - 1) 0 = t at *
 generalize wN (ws.take (m - 1)) = lw at *
 generalize wN (ws.take m) = X at *
 generalize 18446744073709551616 ^ (m - 1) = q at *
 generalize 18446744073709551616 ^ m = p at *
 have hk01 : (0 ≤ S → k = 0) ∧ (S < 0 → k = 1) := by
  have hub : k * (p : Int) < 2 * p := by omega
  have hlb : -(p : Int) < k * p := by omega
  have h2 : k < 2 := by
   rcases Int.lt_or_le k 2 with c | c
   ·
    exact c
   ·
    have := Int.mul_le_mul_of_nonneg_right c (Int.natCast_nonneg p); omega
  have h3 : -1 < k := by
   rcases Int.lt_or_le (-1) k with c | c
   ·
    exact c
   ·
    have := Int.mul_le_mul_of_nonneg_right c (Int.natCast_nonneg p); omega
  rcases (show k = 0 ∨ k = 1 by omega) with rfl | rfl
  ·
   exact ⟨fun _ => rfl, fun hn => by omega⟩
  ·
   exact ⟨fun hn => by omega, fun _ => rfl⟩
 have hX0 : 0 ≤ S → (X : Int) = S := fun hn => by rw [hk, hk01.1 hn]; omega
 have hX1 : S < 0 → (X : Int) = S + p := fun hn => by rw [hk, hk01.2 hn]; omega
 refine ⟨?_, hX0, hX1⟩
 have hcmp : 9223372036854775808 ≤ t ↔ p ≤ 2 * X := by
  constructor
  ·
   intro ht
   have := Nat.mul_le_mul_left q ht
   omega
  ·
   intro ht
   rcases Nat.lt_or_ge t 9223372036854775808 with c | c
   ·
    exfalso
    have := Nat.mul_le_mul_left q (Nat.succ_le_of_lt c)
    rw [Nat.mul_succ] at this
    omega
   ·
    exact c
 rw [hcmp]
 constructor
 ·
  intro hn; have := hX1 hn; omega
 ·
  intro hn
  rcases Int.lt_or_le S 0 with c | c
  ·
   exact c
  ·
   have := hX0 c; omega
theorem mag_val {m : Nat} {ws : List Nat} {S : Int} (h0 : 1 ≤ m) (h1 : m ≤ 16) (hl : ws.length = 16) (hw : Ws ws) (h : Stands m ws S) (hS : 2 * S.natAbs < 18446744073709551616 ^ m) : wN ((magW m ws).take m) = S.natAbs ∧ (magW m ws).length = 16 := by
 obtain ⟨a, b, c⟩ := stands_small h0 h1 hl hw h hS
 unfold magW
 by_cases hn : 9223372036854775808 ≤ ws.getD (m - 1) 0
 ·
  rw [if_pos hn]
  have hs := a.mpr hn
  have hlen := neg_length hl h1
  have hst := neg_stands hl h1 hw h
  have hww : Ws (negW m ws) := (turn_ws _ _).append (hw.drop _)
  obtain ⟨a', b', c'⟩ := stands_small h0 h1 hlen hww hst (by rw [Int.natAbs_neg]; exact hS)
  refine ⟨?_, hlen⟩
  have := b' (by omega)
  show wN ((negW m ws).take m) = _
  omega
 ·
  rw [if_neg hn]
  refine ⟨?_, hl⟩
  have := b (by omega)
  omega
theorem top_val {ls : List Nat} : ∀ k : Nat, k < ls.length → wN (ls.take (k + 1)) = wN (ls.take (topI ls k + 1)) ∧ topI ls k ≤ k ∧ (topI ls k = 0 ∨ ls.getD (topI ls k) 0 ≠ 0)
 | 0, h => ⟨rfl, Nat.le_refl _, Or.inl rfl⟩
 | k + 1, h => by
  obtain ⟨a, b, c⟩ := top_val (ls := ls) k (by omega)
  unfold topI
  by_cases e : ls.getD (k + 1) 0 = 0
  ·
   rw [if_pos e]
   refine ⟨?_, by omega, c⟩
   rw [wN_snoc h, e, Nat.mul_zero, Nat.add_zero, a]
  ·
   rw [if_neg e]
   exact ⟨rfl, Nat.le_refl _, Or.inr e⟩
theorem any_val {ls : List Nat} : ∀ k : Nat, k ≤ ls.length → anyW ls k = decide (wN (ls.take k) ≠ 0)
 | 0, _ => by simp [anyW, wN]
 | k + 1, h => by
  rw [anyW, any_val k (by omega), wN_snoc (l := ls) (k := k) (by omega)]
  have hp : 0 < 18446744073709551616 ^ k := Nat.pow_pos (by decide)
  rw [Bool.eq_iff_iff, Bool.or_eq_true, decide_eq_true_eq, decide_eq_true_eq, decide_eq_true_eq]
  constructor
  ·
   rintro (g | g)
   ·
    omega
   ·
    have := Nat.mul_pos hp (Nat.pos_of_ne_zero g); omega
  ·
   intro g
   by_cases e : wN (ls.take k) = 0
   ·
    right
    intro z
    rw [e, z] at g
    exact g (by simp)
   ·
    exact Or.inl e
theorem by_three {ls : List Nat} {i W : Nat} (hW : W = 18446744073709551616) (hw : Ws ls) (hi : i < ls.length) : ∃ R : Nat, wN (ls.take (i + 1)) * (W * W) = (thW ls i 0 * (W * W) + thW ls i 1 * W + thW ls i 2) * W ^ i + R * (W * W) ∧ R * (W * W) < W ^ i ∧ anyW ls (i - 2) = decide (R ≠ 0) := by
 have hsn : ∀ {k : Nat}, k < ls.length → wN (ls.take (k + 1)) = wN (ls.take k) + W ^ k * ls.getD k 0 := fun h => by rw [hW]; exact wN_snoc h
 have hW0 : 0 < W := by rw [hW]; decide
 rw [any_val (i - 2) (by omega)]
 rcases i with _ | _ | j
 ·
  refine ⟨0, ?_, by simp, by simp [wN]⟩
  rw [hsn hi]
  unfold thW
  simp [wN]
 ·
  refine ⟨0, ?_, by simp; exact hW0, by simp [wN]⟩
  rw [hsn hi, hsn (k := 0) (by omega)]
  unfold thW
  rw [if_pos (by omega), if_pos (by omega), if_neg (by omega), show 0 + 1 - 0 = 1 by omega, show 0 + 1 - 1 = 0 by omega]
  rw [show wN (ls.take 0) = 0 from rfl, Nat.pow_zero, show W ^ (0 + 1) = W from Nat.pow_one W]
  generalize ls.getD 1 0 = a
  generalize ls.getD (0 + 1) 0 = a'
  generalize ls.getD 0 0 = b
  grind
 ·
  refine ⟨wN (ls.take j), ?_, ?_, rfl⟩
  ·
   rw [hsn hi, hsn (k := j + 1) (by omega), hsn (k := j) (by omega)]
   unfold thW
   rw [if_pos (by omega), if_pos (by omega), if_pos (by omega), show j + 1 + 1 - 0 = j + 1 + 1 by omega, show j + 1 + 1 - 1 = j + 1 by omega, show j + 1 + 1 - 2 = j by omega]
   have h1 : W ^ (j + 1) = W ^ j * W := by rw [Nat.pow_succ]
   have h2 : W ^ (j + 1 + 1) = W ^ j * W * W := by rw [Nat.pow_succ, h1]
   rw [h2, h1]
   generalize W ^ j = p
   generalize ls.getD (j + 1 + 1) 0 = a
   generalize ls.getD (j + 1) 0 = b
   generalize ls.getD j 0 = c
   generalize wN (ls.take j) = x
   clear hsn hW h1 h2
   grind
  ·
   have := wN_lt (hw.take j)
   rw [List.length_take, Nat.min_eq_left (by omega), ← hW] at this
   rw [Nat.pow_succ, Nat.pow_succ, Nat.mul_assoc]
   exact (Nat.mul_lt_mul_right (Nat.mul_pos hW0 hW0)).mpr this
theorem th_ws {ls : List Nat} (hw : Ws ls) (i j : Nat) : thW ls i j < 18446744073709551616 := by
 unfold thW
 split
 ·
  exact getD_ws hw _
 ·
  decide
theorem q_lt {s : Nat} (hs : s < 64) {x : Nat} (hx : x < 18446744073709551616) : x / 2 / 2 ^ (63 - s) = x / 2 ^ (64 - s) := by
 rw [Nat.div_div_eq_div_mul, ← Nat.pow_succ', show (63 - s).succ = 64 - s by omega]
theorem handed_core {A a b c R s B W V i : Nat} (hWV : W = 2 * V) (hpB : 2 ^ s * 2 ^ B = W) (hB0 : 1 ≤ B) (e128 : 2 ^ 128 = W * W) (e64i : 2 ^ (64 * i) = W ^ i) (hlo : 2 ^ (B - 1) ≤ a) (hhi : a < 2 ^ B) (h1 : b < W) (h2 : c < W)
  (hA : A * (W * W) = (a * (W * W) + b * W + c) * W ^ i + R * (W * W)) (hR : R * (W * W) < W ^ i) :
  blen A = 64 * i + B ∧ (a * 2 ^ s % W + b / 2 ^ B) * W + (b * 2 ^ s % W + c / 2 ^ B) = tpM A ∧ (decide (c * 2 ^ s % W ≠ 0) || decide (R ≠ 0)) = tpR A ∧ a * 2 ^ s % W + b / 2 ^ B < W ∧ b * 2 ^ s % W + c / 2 ^ B < W := by
 have hpp : 0 < 2 ^ B := Nat.pow_pos (by decide)
 have hps : 0 < 2 ^ s := Nat.pow_pos (by decide)
 have hW0 : 0 < W := by rw [← hpB]; exact Nat.mul_pos hps hpp
 have hpi : 0 < W ^ i := Nat.pow_pos hW0
 have as_lt : a * 2 ^ s < W := by rw [← hpB, Nat.mul_comm]; exact (Nat.mul_lt_mul_left hps).mpr hhi
 have hB2 : 2 ^ B = 2 * 2 ^ (B - 1) := by rw [← Nat.pow_succ']; congr 1; omega
 have hV : V = 2 ^ (B - 1) * 2 ^ s := by
  have : 2 * V = 2 * (2 ^ (B - 1) * 2 ^ s) := by rw [← hWV, ← hpB, hB2]; grind
  omega
 have as_ge : V ≤ a * 2 ^ s := by rw [hV]; exact Nat.mul_le_mul_right _ hlo
 have hdiv : ∀ x : Nat, x * 2 ^ s = W * (x / 2 ^ B) + x * 2 ^ s % W := fun x => by
  have h1 := Nat.div_add_mod (x * 2 ^ s) W
  have h2 : x * 2 ^ s / W = x / 2 ^ B := by rw [← hpB, Nat.mul_comm x, Nat.mul_div_mul_left _ _ hps]
  rw [h2] at h1; exact h1.symm
 have hmods : ∀ x : Nat, x * 2 ^ s % W = 2 ^ s * (x % 2 ^ B) := fun x => by rw [← hpB, Nat.mul_comm x, Nat.mul_mod_mul_left]
 have sum_lt : ∀ x y : Nat, y < W → x * 2 ^ s % W + y / 2 ^ B < W := fun x y hy => by
  have hq : y / 2 ^ B < 2 ^ s := by rw [Nat.div_lt_iff_lt_mul hpp, hpB]; exact hy
  rw [hmods]
  have : x % 2 ^ B < 2 ^ B := Nat.mod_lt _ hpp
  have h4 := Nat.mul_le_mul_left (2 ^ s) (Nat.succ_le_of_lt this)
  rw [Nat.mul_succ, hpB] at h4
  omega
 have has : a * 2 ^ s % W = a * 2 ^ s := Nat.mod_eq_of_lt as_lt
 have s1 := sum_lt a b h1
 have s2 := sum_lt b c h2
 have hT : a * (W * W) + b * W + c = ((a * 2 ^ s % W + b / 2 ^ B) * W + (b * 2 ^ s % W + c / 2 ^ B)) * 2 ^ B + c % 2 ^ B := by
  have q1 := hdiv b
  have q2 := Nat.div_add_mod c (2 ^ B)
  rw [has]
  have q3 : (a * 2 ^ s) * W * 2 ^ B = a * (W * W) := by
   rw [show a * (W * W) = a * (W * (2 ^ s * 2 ^ B)) by rw [hpB]]; grind
  have q4 : (W * (b / 2 ^ B) + b * 2 ^ s % W) * 2 ^ B = b * W := by rw [← q1, Nat.mul_assoc, hpB]
  generalize b * 2 ^ s % W = y at *
  generalize b / 2 ^ B = z at *
  generalize a * 2 ^ s = w at *
  generalize c / 2 ^ B = u at *
  generalize c % 2 ^ B = v at *
  generalize 2 ^ B = p at *
  clear hdiv hmods sum_lt hA hR e128 e64i hV hB2
  grind
 generalize a * 2 ^ s % W + b / 2 ^ B = H at *
 generalize hLw : b * 2 ^ s % W + c / 2 ^ B = Lw at *
 have hHge : V ≤ H ∨ True := Or.inr trivial
 have hc2 : c % 2 ^ B < 2 ^ B := Nat.mod_lt _ hpp
 have hrest0 : (c * 2 ^ s % W ≠ 0) ↔ c % 2 ^ B ≠ 0 := by
  rw [hmods]
  constructor
  ·
   intro g z; rw [z, Nat.mul_zero] at g; exact g rfl
  ·
   intro g z
   rcases Nat.mul_eq_zero.mp z with z | z
   ·
    omega
   ·
    exact g z
 have hrem : c % 2 ^ B * W ^ i + R * (W * W) < 2 ^ B * W ^ i := by
  have := Nat.mul_le_mul_right (W ^ i) (Nat.succ_le_of_lt hc2)
  rw [Nat.succ_mul] at this
  omega
 have hwhole : A * 2 ^ 128 = (H * W + Lw) * (2 ^ B * W ^ i) + (c % 2 ^ B * W ^ i + R * (W * W)) := by
  rw [e128, hA, hT]
  generalize W ^ i = p
  generalize 2 ^ B = q
  generalize R * (W * W) = r
  generalize H * W + Lw = x
  generalize c % q = y
  grind
 have htl : H * W + Lw < W * W := by
  have := Nat.mul_le_mul_right W (Nat.succ_le_of_lt s1)
  rw [Nat.succ_mul] at this
  omega
 have hlow : 2 ^ (B - 1) * W ^ i ≤ A := by
  have h5 : (2 ^ (B - 1) * W ^ i) * (W * W) ≤ A * (W * W) := by
   rw [hA]
   have := Nat.mul_le_mul_right (W * W) hlo
   have h6 := Nat.mul_le_mul_right (W ^ i) this
   have h7 : (2 ^ (B - 1) * W ^ i) * (W * W) = 2 ^ (B - 1) * (W * W) * W ^ i := by grind
   have h8 : (a * (W * W) + b * W + c) * W ^ i = a * (W * W) * W ^ i + (b * W + c) * W ^ i := by grind
   rw [h7, h8]
   omega
  exact Nat.le_of_mul_le_mul_right h5 (Nat.mul_pos hW0 hW0)
 have hup : A < 2 ^ B * W ^ i := by
  have h5 : A * (W * W) < (2 ^ B * W ^ i) * (W * W) := by
   rw [← e128, hwhole, e128]
   have := Nat.mul_le_mul_right (2 ^ B * W ^ i) (Nat.succ_le_of_lt htl)
   rw [Nat.succ_mul, Nat.mul_comm (W * W)] at this
   omega
  exact Nat.lt_of_mul_lt_mul_right h5
 have hbl : blen A = 64 * i + B := by
  apply blen_unique
  ·
   rw [Nat.pow_add, e64i, Nat.mul_comm (W ^ i)]; exact hup
  ·
   right
   rw [show 64 * i + B - 1 = (B - 1) + 64 * i by omega, Nat.pow_add, e64i]
   exact hlow
 have hden : 2 ^ blen A = 2 ^ B * W ^ i := by rw [hbl, Nat.pow_add, e64i, Nat.mul_comm]
 refine ⟨hbl, ?_, ?_, s1, s2⟩
 ·
  unfold tpM
  rw [hden, hwhole, Nat.mul_comm (H * W + Lw), Nat.mul_add_div (Nat.mul_pos hpp hpi), Nat.div_eq_of_lt hrem, Nat.add_zero]
 ·
  unfold tpR
  rw [hden, hwhole, Nat.mul_comm (H * W + Lw), Nat.mul_add_mod, Nat.mod_eq_of_lt hrem, Bool.eq_iff_iff, Bool.or_eq_true, decide_eq_true_eq, decide_eq_true_eq, decide_eq_true_eq, hrest0]
  have hWW : 0 < W * W := Nat.mul_pos hW0 hW0
  constructor
  ·
   rintro (g | g)
   ·
    have := Nat.mul_pos (Nat.pos_of_ne_zero g) hpi; omega
   ·
    have := Nat.mul_pos (Nat.pos_of_ne_zero g) hWW; omega
  ·
   intro g
   by_cases z : c % 2 ^ B = 0
   ·
    right
    intro z2
    rw [z, z2, Nat.zero_mul, Nat.zero_mul] at g
    exact g rfl
   ·
    exact Or.inl z
theorem handed {ls : List Nat} {i : Nat} (hw : Ws ls) (hi : i < ls.length) (hne : thW ls i 0 ≠ 0) :
  64 - blen (thW ls i 0) < 64 ∧ blen (thW ls i 0) ≤ 64 ∧ blen (wN (ls.take (i + 1))) = 64 * i + blen (thW ls i 0) ∧ tw (rdHi ls i (64 - blen (thW ls i 0))) (rdLo ls i (64 - blen (thW ls i 0))) = tpM (wN (ls.take (i + 1))) ∧ rdRest ls i (64 - blen (thW ls i 0)) = tpR (wN (ls.take (i + 1))) ∧ rdHi ls i (64 - blen (thW ls i 0)) < 18446744073709551616 ∧ rdLo ls i (64 - blen (thW ls i 0)) < 18446744073709551616 := by
 have h0 := th_ws hw i 0
 have h1 := th_ws hw i 1
 have h2 := th_ws hw i 2
 obtain ⟨R, hA, hR, hany⟩ := by_three (W := 18446744073709551616) rfl hw hi
 have hb0 := blen_pos (show 0 < thW ls i 0 by omega)
 have hb64 : blen (thW ls i 0) ≤ 64 := blen_le_of (by rw [show (2 : Nat) ^ 64 = 18446744073709551616 by decide]; exact h0)
 have hlo := blen_le (show 0 < thW ls i 0 by omega)
 have hhi := lt_blen (thW ls i 0)
 have hs64 : 64 - blen (thW ls i 0) < 64 := by omega
 have hsB : 64 - (64 - blen (thW ls i 0)) = blen (thW ls i 0) := by omega
 have hc := handed_core (V := 9223372036854775808) (s := 64 - blen (thW ls i 0)) (i := i) (by decide) (by rw [← Nat.pow_add, show 64 - blen (thW ls i 0) + blen (thW ls i 0) = 64 by omega]) hb0 (by decide) (by rw [Nat.pow_mul]) hlo hhi h1 h2 hA hR
 unfold rdHi rdLo rdRest
 rw [hany, q_lt hs64 h1, q_lt hs64 h2, hsB]
 exact ⟨hs64, hb64, hc⟩
end Go.Proofs.Ytjlaijaadclghaa.M
