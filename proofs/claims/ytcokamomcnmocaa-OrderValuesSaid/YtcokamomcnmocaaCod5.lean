/- The pattern that means a number, exactly: what the program's sixth layer answers, and its reference. -/
import Derived.Test.YtcokamomcnmocaaF9
import Derived.Test.YtcokamomcnmocaaCod3
namespace Go.Proofs.Ytcokamomcnmocaa.M
open Go.RowKit Go.Proofs.YtcokamomcnmocaaW.PrintWords Go.Proofs.YtcokamomcnmocaaW.PrintLast Go.Proofs.YtcokamomcnmocaaW.PrintMore Go.Proofs.Ytcokamomcnmocaa.F
set_option linter.unusedVariables false
set_option linter.unusedSimpArgs false

/-- May there be such a number? -/
def sndB (kind : Int) (neg : Bool) (sc fr : Int) : Bool := if kind = 0 ∨ kind = 2 then (!neg && (sc == 0 && (fr == 0))) else decide (kind = 1 ∧ 9223372036854775808 ≤ fr ∧ -1073741824 ≤ sc ∧ sc ≤ 1073741824)
theorem Sound06_eq {kind : Int} {neg : Bool} {sc fr : Int} : vernierref06_Sound.f kind neg sc fr = some (sndB kind neg sc fr) := by
  unfold vernierref06_Sound.f sndB
  by_cases k0 : kind = 0
  · rw [if_pos k0, if_pos (Or.inl k0)]
  · rw [if_neg k0]
    by_cases k2 : kind = 2
    · rw [if_pos k2, if_pos (Or.inr k2)]
    · have k3 : ¬ (kind = 0 ∨ kind = 2) := by intro h; rcases h with h | h; exact k0 h; exact k2 h
      rw [if_neg k2, if_neg k3]
      by_cases k1 : kind = 1
      · rw [if_pos k1]
        by_cases c1 : fr ≥ 9223372036854775808
        · rw [if_pos c1]
          by_cases c2 : sc ≥ -1073741824
          · rw [if_pos c2]; congr 1; rw [Bool.eq_iff_iff, decide_eq_true_eq, decide_eq_true_eq]; omega
          · rw [if_neg c2, decide_eq_false (show ¬ (kind = 1 ∧ 9223372036854775808 ≤ fr ∧ -1073741824 ≤ sc ∧ sc ≤ 1073741824) by omega)]
        · rw [if_neg c1, decide_eq_false (show ¬ (kind = 1 ∧ 9223372036854775808 ≤ fr ∧ -1073741824 ≤ sc ∧ sc ≤ 1073741824) by omega)]
      · rw [if_neg k1, decide_eq_false (show ¬ (kind = 1 ∧ 9223372036854775808 ≤ fr ∧ -1073741824 ≤ sc ∧ sc ≤ 1073741824) by omega)]
/-- The pattern p means this Real. -/
def GoodX (n : Nat) (neg : Bool) (sc fr : Int) (p : Nat) : Prop := p < 2 ^ n ∧ kindN n p = 1 ∧ topB p n = neg ∧ scI (abN n p) (n - 1) = sc ∧ (mtN (abN n p) (n - 1) : Int) = fr
theorem goodX_means {ε : Type} {n p : Nat} {neg : Bool} {sc fr : Int} (g : GoodX n neg sc fr p) (e : ε) : meansT n p e = (1, neg, sc, fr, e) := by
  obtain ⟨_, hk, h1, h2, h3⟩ := g
  unfold meansT
  rw [if_pos hk, h1, h2, h3]
theorem means_goodX {ε : Type} {n q : Nat} {neg : Bool} {sc fr : Int} {e e' : ε} (h : Wd n) (hq : q < 18446744073709551616) (hm : meansT n q e = (1, neg, sc, fr, e')) : GoodX n neg sc fr (q % 2 ^ n) := by
  have hw := mod_lt64 h q
  have em : q % 2 ^ n % 2 ^ n = q % 2 ^ n := Nat.mod_mod _ _
  rw [← means_congr h hw hq em] at hm
  unfold meansT at hm
  by_cases hk : kindN n (q % 2 ^ n) = 1
  · rw [if_pos hk] at hm
    simp only [Prod.mk.injEq] at hm
    exact ⟨Nat.mod_lt _ (Nat.pow_pos (by decide)), hk, hm.2.1, hm.2.2.1, hm.2.2.2.1⟩
  · rw [if_neg hk] at hm
    simp only [Prod.mk.injEq] at hm
    exact absurd hm.1 hk
theorem ne4 (a1 b1 : Int) (a2 b2 : Bool) (a3 b3 a4 b4 : Int) : ((!(a1 == b1) || (!(a2 == b2) || (!(a3 == b3) || (!(a4 == b4))))) = true) ↔ ¬ (a1 = b1 ∧ a2 = b2 ∧ a3 = b3 ∧ a4 = b4) := by
  simp only [Bool.or_eq_true, Bool.not_eq_true', beq_eq_false_iff_ne]
  constructor
  · rintro (h | h | h | h) ⟨e1, e2, e3, e4⟩ <;> contradiction
  · intro h
    by_cases e1 : a1 = b1
    · by_cases e2 : a2 = b2
      · by_cases e3 : a3 = b3
        · by_cases e4 : a4 = b4
          · exact absurd ⟨e1, e2, e3, e4⟩ h
          · simp [e4]
        · simp [e3]
      · simp [e2]
    · simp [e1]
/-- The run of a scale. -/
def runS (sc : Int) : Nat := if 0 ≤ sc / 4 then (sc / 4 + 1).toNat else (-(sc / 4)).toNat
/-- The parts of a number. -/
def partsX (n : Nat) (neg : Bool) (sc : Int) (fr : Nat) : F8 := (neg, decide (0 ≤ sc / 4), (runS sc : Int), sc / 4, ((min (n - 2 - runS sc) 2 : Nat) : Int), sc % 4, ((n - 2 - runS sc - min (n - 2 - runS sc) 2 : Nat) : Int), ((fr * 2 % 18446744073709551616 / 2 ^ (64 - (n - 2 - runS sc - min (n - 2 - runS sc) 2)) : Nat) : Int))
theorem rg_of {x w : Nat} (hw : 0 < w) : (rgI x w ≥ 0 ↔ topB x w = true) ∧ runN x w = (if topB x w = true then (rgI x w + 1).toNat else (-(rgI x w)).toNat) := by
  have h0 := runN_pos (x := x) hw
  unfold rgI
  by_cases ht : topB x w = true
  · rw [if_pos ht, if_pos ht]; exact ⟨⟨fun _ => ht, fun _ => by omega⟩, by omega⟩
  · rw [if_neg ht, if_neg ht]; exact ⟨⟨fun h => by omega, fun h => absurd h ht⟩, by omega⟩
theorem scale_div {x w : Nat} (hw : 0 < w) : scI x w / 4 = rgI x w ∧ scI x w % 4 = (exN x w : Int) ∧ runS (scI x w) = runN x w ∧ decide (0 ≤ scI x w / 4) = topB x w := by
  have hx := exN_lt x w
  obtain ⟨r1, r2⟩ := rg_of (x := x) hw
  have e1 : scI x w / 4 = rgI x w := by unfold scI; omega
  have e2 : scI x w % 4 = (exN x w : Int) := by unfold scI; omega
  refine ⟨e1, e2, ?_, ?_⟩
  · unfold runS
    rw [e1, r2]
    by_cases ht : topB x w = true
    · rw [if_pos ht, if_pos (r1.mpr ht)]
    · rw [if_neg ht, if_neg (fun hh => ht (r1.mp hh))]
  · rw [e1, Bool.eq_iff_iff, decide_eq_true_eq]; exact r1
theorem partsX_good {n p : Nat} {neg : Bool} {sc : Int} {fr : Nat} (h : Wd n) (g : GoodX n neg sc (fr : Int) p) : partsX n neg sc fr = partsF n p := by
  obtain ⟨hp, hk, h1, h2, h3⟩ := g
  have hn := h.ge
  have hl := h.le
  have hw : 0 < n - 1 := by omega
  obtain ⟨d1, d2, d3, d4⟩ := scale_div (x := abN n p) hw
  rw [h2] at d1 d2 d3 d4
  have hL : n - 2 - runN (abN n p) (n - 1) = lfN (abN n p) (n - 1) := by unfold lfN; omega
  have hf := frN_lt (abN n p) (n - 1)
  have hb := fb_le (x := abN n p) hw
  have e3 : fr = 9223372036854775808 + frN (abN n p) (n - 1) * 2 ^ (63 - fbN (abN n p) (n - 1)) := by unfold mtN at h3; omega
  have hm := mtN_lt (x := abN n p) hw (by omega)
  have e4 : fr * 2 % 18446744073709551616 = frN (abN n p) (n - 1) * 2 ^ (64 - fbN (abN n p) (n - 1)) := by
    have e5 : 2 ^ (64 - fbN (abN n p) (n - 1)) = 2 ^ (63 - fbN (abN n p) (n - 1)) * 2 := by rw [← Nat.pow_succ]; congr 1; omega
    rw [e3, e5, ← Nat.mul_assoc]
    omega
  unfold partsX partsF
  rw [d1, d2, d3, h1]
  rw [d1] at d4
  rw [d4, hL]
  have e6 : lfN (abN n p) (n - 1) - min (lfN (abN n p) (n - 1)) 2 = fbN (abN n p) (n - 1) := rfl
  rw [e6, e4, Nat.mul_div_cancel _ (Nat.pow_pos (by decide))]
  rfl
theorem partsX_run {n : Nat} {sc : Int} (h : Wd n) (h0 : -((4 * n - 8 : Nat) : Int) ≤ sc) (h1 : sc ≤ ((4 * n - 8 : Nat) : Int)) : 1 ≤ runS sc ∧ runS sc ≤ n - 1 := by
  have := h.ge
  unfold runS
  split <;> omega
theorem and3 (x : Int) : Go.bits .and .i64 x 3 = x % 4 := by
  simp only [bits]
  have h1 : (BitVec.ofInt IntKind.i64.bits x &&& BitVec.ofInt IntKind.i64.bits 3).toNat = (x % 4).toNat := by
    show (BitVec.ofInt 64 x &&& BitVec.ofInt 64 3).toNat = _
    rw [BitVec.toNat_and, BitVec.toNat_ofInt, BitVec.toNat_ofInt]
    rw [show ((3 : Int) % ((2 ^ 64 : Nat) : Int)).toNat = 2 ^ 2 - 1 from rfl, Nat.and_two_pow_sub_one_eq_mod]
    rw [show ((2 ^ 64 : Nat) : Int) = 18446744073709551616 from rfl, show (2 : Nat) ^ 2 = 4 from rfl]
    omega
  rw [h1]
  have h2 : 0 ≤ x % 4 ∧ x % 4 < 4 := by omega
  rw [Int.toNat_of_nonneg h2.1]
  simp [IntKind.wrap, IntKind.bits, IntKind.signed]
  omega
theorem sc_range {n p : Nat} {neg : Bool} {sc fr : Int} (h : Wd n) (g : GoodX n neg sc fr p) : -((4 * n - 8 : Nat) : Int) ≤ sc ∧ sc ≤ ((4 * n - 8 : Nat) : Int) := by
  obtain ⟨hp, hk, h1, h2, h3⟩ := g
  have hn := h.ge
  have hl := h.le
  have hw : p < 18446744073709551616 := Nat.lt_of_lt_of_le hp (pow_le64 h.le)
  have hr := runN_le (abN n p) (n - 1)
  have hr0 := runN_pos (x := abN n p) (n := n - 1) (by omega)
  have hx := exN_lt (abN n p) (n - 1)
  have hpos := ab_pos h hw hk
  have hlt := Nat.mod_lt (abN n p) (Nat.pow_pos (n := n - 1) (show 0 < 2 by decide))
  have hb := whole_split (x := abN n p) (w := n - 1) (by omega)
  have heb := ebN (abN n p) (n - 1)
  rw [← h2]
  unfold scI rgI
  by_cases ht : topB (abN n p) (n - 1) = true
  · rw [if_pos ht]
    by_cases hr1 : runN (abN n p) (n - 1) = n - 1
    · have e0 : ebN (abN n p) (n - 1) = 0 := by unfold ebN lfN; omega
      have e1 : exN (abN n p) (n - 1) = 0 := by
        have := eN_lt (abN n p) (n - 1)
        rw [e0] at this
        unfold exN; rw [show eN (abN n p) (n - 1) = 0 by simpa using this]; simp
      omega
    · omega
  · rw [if_neg ht]
    have hr1 : runN (abN n p) (n - 1) ≠ n - 1 := by
      intro hh
      have e0 : ebN (abN n p) (n - 1) = 0 := by unfold ebN lfN; omega
      have e2 : fbN (abN n p) (n - 1) = 0 := by unfold fbN lfN; omega
      have e1 := eN_lt (abN n p) (n - 1)
      have e3 := frN_lt (abN n p) (n - 1)
      rw [e0] at e1
      rw [e2] at e3
      unfold baseN at hb
      rw [if_neg ht, if_neg (by omega), show eN (abN n p) (n - 1) = 0 by simpa using e1, show frN (abN n p) (n - 1) = 0 by simpa using e3] at hb
      omega
    omega
end Go.Proofs.Ytcokamomcnmocaa.M
