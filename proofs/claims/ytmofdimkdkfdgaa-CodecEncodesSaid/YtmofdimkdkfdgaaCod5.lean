/- The pattern that means a number, exactly: what the program's sixth layer answers, and its reference. -/
import Derived.Test.YtmofdimkdkfdgaaF7
import Derived.Test.YtmofdimkdkfdgaaF8
import Derived.Test.YtmofdimkdkfdgaaF9
import Derived.Test.YtmofdimkdkfdgaaF12
import Derived.Test.YtmofdimkdkfdgaaCod3
namespace Go.Proofs.Ytmofdimkdkfdgaa.M
open Go.RowKit Go.Proofs.YtmofdimkdkfdgaaW.PrintWords Go.Proofs.YtmofdimkdkfdgaaW.PrintLast Go.Proofs.YtmofdimkdkfdgaaW.PrintMore Go.Proofs.Ytmofdimkdkfdgaa.F
set_option linter.unusedVariables false
set_option linter.unusedSimpArgs false

/-- May there be such a number? -/
def sndB (kind : Int) (neg : Bool) (sc fr : Int) : Bool := if kind = 0 ∨ kind = 2 then (!neg && (sc == 0 && (fr == 0))) else decide (kind = 1 ∧ 9223372036854775808 ≤ fr ∧ -1073741824 ≤ sc ∧ sc ≤ 1073741824)
theorem sound_ev {kind : Int} {neg : Bool} {sc fr : Int} (h0 : 0 ≤ fr) (h1 : fr < 18446744073709551616) : Ev (fun k => codec_sound.f k kind neg sc fr) (sndB kind neg sc fr) := by
  unfold codec_sound.f sndB
  by_cases k0 : kind = 0
  · rw [if_pos (Or.inl k0)]
    refine Ev.congr (fun k => if_pos k0) (Ev.step (f := fun k => some (!neg && (sc == 0 && (fr == 0)))) (fun k => ?_) (Ev.now _))
    simp only [codec_sound.j0]
    rw [if_pos (by simpa using k0)]
  · refine Ev.congr (fun k => if_neg k0) ?_
    by_cases k2 : kind = 2
    · rw [if_pos (Or.inr k2)]
      refine Ev.step (f := fun k => some (!neg && (sc == 0 && (fr == 0)))) (fun k => ?_) (Ev.now _)
      simp only [codec_sound.j0]
      rw [if_pos (by simpa using k2)]
    · rw [if_neg (by intro h; rcases h with h | h; exact k0 h; exact k2 h)]
      refine Ev.step (f := fun k => some (decide (kind = 1 ∧ 9223372036854775808 ≤ fr ∧ -1073741824 ≤ sc ∧ sc ≤ 1073741824))) (fun k => ?_) (Ev.now _)
      simp only [codec_sound.j0]
      rw [if_neg (by simpa using k2)]
      by_cases k1 : kind = 1
      · rw [if_pos k1]
        by_cases c1 : fr / 9223372036854775808 = 1
        · rw [if_pos c1]
          by_cases c2 : sc ≥ -1073741824
          · rw [if_pos c2]; congr 1; rw [Bool.eq_iff_iff, decide_eq_true_eq, decide_eq_true_eq]; omega
          · rw [if_neg c2, decide_eq_false (show ¬ (kind = 1 ∧ 9223372036854775808 ≤ fr ∧ -1073741824 ≤ sc ∧ sc ≤ 1073741824) by omega)]
        · rw [if_neg c1, decide_eq_false (show ¬ (kind = 1 ∧ 9223372036854775808 ≤ fr ∧ -1073741824 ≤ sc ∧ sc ≤ 1073741824) by omega)]
      · rw [if_neg k1, decide_eq_false (show ¬ (kind = 1 ∧ 9223372036854775808 ≤ fr ∧ -1073741824 ≤ sc ∧ sc ≤ 1073741824) by omega)]
theorem Sound06_eq {kind : Int} {neg : Bool} {sc fr : Int} : vernierref06_Sound.f kind neg sc fr = some (sndB kind neg sc fr) := by
  unfold vernierref06_Sound.f sndB
  by_cases k0 : kind = 0
  · rw [if_pos k0, if_pos (Or.inl k0)]
  · rw [if_neg k0]
    by_cases k2 : kind = 2
    · rw [if_pos k2, if_pos (Or.inr k2)]
    · have k3 : ¬ (kind = 0 ∨ kind = 2) := by intro h; rcases h with h | h; exact k0 h; exact k2 h
      rw [if_neg k2, if_neg k3]
      by_cases k1 : kind = 1
      · rw [if_pos k1]
        by_cases c1 : fr ≥ 9223372036854775808
        · rw [if_pos c1]
          by_cases c2 : sc ≥ -1073741824
          · rw [if_pos c2]; congr 1; rw [Bool.eq_iff_iff, decide_eq_true_eq, decide_eq_true_eq]; omega
          · rw [if_neg c2, decide_eq_false (show ¬ (kind = 1 ∧ 9223372036854775808 ≤ fr ∧ -1073741824 ≤ sc ∧ sc ≤ 1073741824) by omega)]
        · rw [if_neg c1, decide_eq_false (show ¬ (kind = 1 ∧ 9223372036854775808 ≤ fr ∧ -1073741824 ≤ sc ∧ sc ≤ 1073741824) by omega)]
      · rw [if_neg k1, decide_eq_false (show ¬ (kind = 1 ∧ 9223372036854775808 ≤ fr ∧ -1073741824 ≤ sc ∧ sc ≤ 1073741824) by omega)]
/-- The pattern p means this Real. -/
def GoodX (n : Nat) (neg : Bool) (sc fr : Int) (p : Nat) : Prop := p < 2 ^ n ∧ kindN n p = 1 ∧ topB p n = neg ∧ scI (abN n p) (n - 1) = sc ∧ (mtN (abN n p) (n - 1) : Int) = fr
theorem goodX_means {ε : Type} {n p : Nat} {neg : Bool} {sc fr : Int} (g : GoodX n neg sc fr p) (e : ε) : meansT n p e = (1, neg, sc, fr, e) := by
  obtain ⟨_, hk, h1, h2, h3⟩ := g
  unfold meansT
  rw [if_pos hk, h1, h2, h3]
theorem means_goodX {ε : Type} {n q : Nat} {neg : Bool} {sc fr : Int} {e e' : ε} (h : Wd n) (hq : q < 18446744073709551616) (hm : meansT n q e = (1, neg, sc, fr, e')) : GoodX n neg sc fr (q % 2 ^ n) := by
  have hw := mod_lt64 h q
  have em : q % 2 ^ n % 2 ^ n = q % 2 ^ n := Nat.mod_mod _ _
  rw [← means_congr h hw hq em] at hm
  unfold meansT at hm
  by_cases hk : kindN n (q % 2 ^ n) = 1
  · rw [if_pos hk] at hm
    simp only [Prod.mk.injEq] at hm
    exact ⟨Nat.mod_lt _ (Nat.pow_pos (by decide)), hk, hm.2.1, hm.2.2.1, hm.2.2.2.1⟩
  · rw [if_neg hk] at hm
    simp only [Prod.mk.injEq] at hm
    exact absurd hm.1 hk
theorem ne4 (a1 b1 : Int) (a2 b2 : Bool) (a3 b3 a4 b4 : Int) : ((!(a1 == b1) || (!(a2 == b2) || (!(a3 == b3) || (!(a4 == b4))))) = true) ↔ ¬ (a1 = b1 ∧ a2 = b2 ∧ a3 = b3 ∧ a4 = b4) := by
  simp only [Bool.or_eq_true, Bool.not_eq_true', beq_eq_false_iff_ne]
  constructor
  · rintro (h | h | h | h) ⟨e1, e2, e3, e4⟩ <;> contradiction
  · intro h
    by_cases e1 : a1 = b1
    · by_cases e2 : a2 = b2
      · by_cases e3 : a3 = b3
        · by_cases e4 : a4 = b4
          · exact absurd ⟨e1, e2, e3, e4⟩ h
          · simp [e4]
        · simp [e3]
      · simp [e2]
    · simp [e1]
/-- The run of a scale. -/
def runS (sc : Int) : Nat := if 0 ≤ sc / 4 then (sc / 4 + 1).toNat else (-(sc / 4)).toNat
/-- The parts of a number. -/
def partsX (n : Nat) (neg : Bool) (sc : Int) (fr : Nat) : F8 := (neg, decide (0 ≤ sc / 4), (runS sc : Int), sc / 4, ((min (n - 2 - runS sc) 2 : Nat) : Int), sc % 4, ((n - 2 - runS sc - min (n - 2 - runS sc) 2 : Nat) : Int), ((fr * 2 % 18446744073709551616 / 2 ^ (64 - (n - 2 - runS sc - min (n - 2 - runS sc) 2)) : Nat) : Int))
theorem rg_of {x w : Nat} (hw : 0 < w) : (rgI x w ≥ 0 ↔ topB x w = true) ∧ runN x w = (if topB x w = true then (rgI x w + 1).toNat else (-(rgI x w)).toNat) := by
  have h0 := runN_pos (x := x) hw
  unfold rgI
  by_cases ht : topB x w = true
  · rw [if_pos ht, if_pos ht]; exact ⟨⟨fun _ => ht, fun _ => by omega⟩, by omega⟩
  · rw [if_neg ht, if_neg ht]; exact ⟨⟨fun h => by omega, fun h => absurd h ht⟩, by omega⟩
theorem scale_div {x w : Nat} (hw : 0 < w) : scI x w / 4 = rgI x w ∧ scI x w % 4 = (exN x w : Int) ∧ runS (scI x w) = runN x w ∧ decide (0 ≤ scI x w / 4) = topB x w := by
  have hx := exN_lt x w
  obtain ⟨r1, r2⟩ := rg_of (x := x) hw
  have e1 : scI x w / 4 = rgI x w := by unfold scI; omega
  have e2 : scI x w % 4 = (exN x w : Int) := by unfold scI; omega
  refine ⟨e1, e2, ?_, ?_⟩
  · unfold runS
    rw [e1, r2]
    by_cases ht : topB x w = true
    · rw [if_pos ht, if_pos (r1.mpr ht)]
    · rw [if_neg ht, if_neg (fun hh => ht (r1.mp hh))]
  · rw [e1, Bool.eq_iff_iff, decide_eq_true_eq]; exact r1
theorem partsX_good {n p : Nat} {neg : Bool} {sc : Int} {fr : Nat} (h : Wd n) (g : GoodX n neg sc (fr : Int) p) : partsX n neg sc fr = partsF n p := by
  obtain ⟨hp, hk, h1, h2, h3⟩ := g
  have hn := h.ge
  have hl := h.le
  have hw : 0 < n - 1 := by omega
  obtain ⟨d1, d2, d3, d4⟩ := scale_div (x := abN n p) hw
  rw [h2] at d1 d2 d3 d4
  have hL : n - 2 - runN (abN n p) (n - 1) = lfN (abN n p) (n - 1) := by unfold lfN; omega
  have hf := frN_lt (abN n p) (n - 1)
  have hb := fb_le (x := abN n p) hw
  have e3 : fr = 9223372036854775808 + frN (abN n p) (n - 1) * 2 ^ (63 - fbN (abN n p) (n - 1)) := by unfold mtN at h3; omega
  have hm := mtN_lt (x := abN n p) hw (by omega)
  have e4 : fr * 2 % 18446744073709551616 = frN (abN n p) (n - 1) * 2 ^ (64 - fbN (abN n p) (n - 1)) := by
    have e5 : 2 ^ (64 - fbN (abN n p) (n - 1)) = 2 ^ (63 - fbN (abN n p) (n - 1)) * 2 := by rw [← Nat.pow_succ]; congr 1; omega
    rw [e3, e5, ← Nat.mul_assoc]
    omega
  unfold partsX partsF
  rw [d1, d2, d3, h1]
  rw [d1] at d4
  rw [d4, hL]
  have e6 : lfN (abN n p) (n - 1) - min (lfN (abN n p) (n - 1)) 2 = fbN (abN n p) (n - 1) := rfl
  rw [e6, e4, Nat.mul_div_cancel _ (Nat.pow_pos (by decide))]
  rfl
theorem partsX_run {n : Nat} {sc : Int} (h : Wd n) (h0 : -((4 * n - 8 : Nat) : Int) ≤ sc) (h1 : sc ≤ ((4 * n - 8 : Nat) : Int)) : 1 ≤ runS sc ∧ runS sc ≤ n - 1 := by
  have := h.ge
  unfold runS
  split <;> omega
theorem Enc_j0 {n : Nat} {neg : Bool} {sc : Int} {fr : Nat} {r : Int × Option Int} (h : Wd n) (h0 : -((4 * n - 8 : Nat) : Int) ≤ sc) (h1 : sc ≤ ((4 * n - 8 : Nat) : Int)) (hfr : fr < 18446744073709551616)
    (hr : Ev (fun k => (codec_Join.f k (n : Int) neg (decide (0 ≤ sc / 4)) (runS sc : Int) (sc / 4) ((min (n - 2 - runS sc) 2 : Nat) : Int) (sc % 4) ((n - 2 - runS sc - min (n - 2 - runS sc) 2 : Nat) : Int) ((fr * 2 % 18446744073709551616 / 2 ^ (64 - (n - 2 - runS sc - min (n - 2 - runS sc) 2)) : Nat) : Int)).bind fun a => (codec_Decode.f k (n : Int) a.1).bind fun b => if a.2.isNone = true then (if (!(b.1 == 1) || (!(b.2.1 == neg) || (!(b.2.2.1 == sc) || (!(b.2.2.2.1 == (fr : Int)))))) = true then some ((0 : Int), some (8 : Int)) else some (a.1, none)) else some (0, some 8)) r) :
    Ev (fun k => codec_Encode.j0 k (n : Int) 1 neg sc (fr : Int) neg (decide (0 ≤ sc / 4)) (runS sc : Int) (sc / 4) 0 (sc % 4) 0 0) r := by
  have hn := h.ge
  have hl := h.le
  obtain ⟨r0, r1⟩ := partsX_run h h0 h1
  have e1 : mx (wrap64 (wrap64 ((n : Int) - 2) - (runS sc : Int))) 0 = ((n - 2 - runS sc : Nat) : Int) := by
    rw [w64 (x := (n : Int) - 2) (by omega) (by omega), w64 (by omega) (by omega)]; unfold mx; split <;> omega
  have e2 : mn ((n - 2 - runS sc : Nat) : Int) 2 = ((min (n - 2 - runS sc) 2 : Nat) : Int) := by rw [show (2 : Int) = ((2 : Nat) : Int) from rfl, mn_int]
  have e3 : wrap64 (((n - 2 - runS sc : Nat) : Int) - ((min (n - 2 - runS sc) 2 : Nat) : Int)) = ((n - 2 - runS sc - min (n - 2 - runS sc) 2 : Nat) : Int) := by rw [w64 (by omega) (by omega)]; omega
  have e4 : wrap64 (64 - ((n - 2 - runS sc - min (n - 2 - runS sc) 2 : Nat) : Int)) = ((64 - (n - 2 - runS sc - min (n - 2 - runS sc) 2) : Nat) : Int) := by rw [w64 (by omega) (by omega)]; omega
  have e5 : IntKind.u64.wrap ((fr : Int) * 2) = ((fr * 2 % 18446744073709551616 : Nat) : Int) := by rw [u64w]; omega
  refine Ev.step (fun k => by simp only [codec_Encode.j0, e1, e2, e3, e4, e5]; rw [if_pos (by omega), shr_nat (Nat.mod_lt _ (by decide))]) hr
theorem Enc_in_good {n p : Nat} {neg : Bool} {sc : Int} {fr : Nat} (h : Wd n) (h0 : -((4 * n - 8 : Nat) : Int) ≤ sc) (h1 : sc ≤ ((4 * n - 8 : Nat) : Int)) (hfr : fr < 18446744073709551616) (g : GoodX n neg sc (fr : Int) p) :
    Ev (fun k => codec_Encode.j0 k (n : Int) 1 neg sc (fr : Int) neg (decide (0 ≤ sc / 4)) (runS sc : Int) (sc / 4) 0 (sc % 4) 0 0) ((p : Int), none) := by
  have hw : p < 18446744073709551616 := Nat.lt_of_lt_of_le g.1 (pow_le64 h.le)
  refine Enc_j0 h h0 h1 hfr ?_
  have hj := Join_good h g.1 g.2.1
  rw [← partsX_good h g] at hj
  have hd := Decode_ev h hw
  rw [goodX_means g] at hd
  refine Ev.bind hj (Ev.bind hd ?_)
  refine Ev.congr (fun k => if_pos rfl) ?_
  exact Ev.congr (fun k => if_neg (fun hh => (ne4 ..).mp hh ⟨rfl, rfl, rfl, rfl⟩)) (Ev.now _)
theorem Enc_in_none {n : Nat} {neg : Bool} {sc : Int} {fr : Nat} (h : Wd n) (h0 : -((4 * n - 8 : Nat) : Int) ≤ sc) (h1 : sc ≤ ((4 * n - 8 : Nat) : Int)) (hfr : fr < 18446744073709551616) (hno : ∀ p, ¬ GoodX n neg sc (fr : Int) p) :
    Ev (fun k => codec_Encode.j0 k (n : Int) 1 neg sc (fr : Int) neg (decide (0 ≤ sc / 4)) (runS sc : Int) (sc / 4) 0 (sc % 4) 0 0) (0, some 8) := by
  refine Enc_j0 h h0 h1 hfr ?_
  by_cases hg : ∃ q, Good n (partsX n neg sc fr) q
  · obtain ⟨q, hq, hk, hp⟩ := hg
    have hw : q < 18446744073709551616 := Nat.lt_of_lt_of_le hq (pow_le64 h.le)
    have hj := Join_good h hq hk
    rw [hp] at hj
    have hd := Decode_ev h hw
    refine Ev.bind hj ?_
    unfold meansT at hd
    rw [if_pos hk] at hd
    refine Ev.bind hd (Ev.congr (fun k => if_pos rfl) ?_)
    refine Ev.congr (fun k => if_pos ((ne4 ..).mpr ?_)) (Ev.now _)
    rintro ⟨_, g1, g2, g3⟩
    exact hno q ⟨hq, hk, g1, g2, g3⟩
  · have hb : fr * 2 % 18446744073709551616 / 2 ^ (64 - (n - 2 - runS sc - min (n - 2 - runS sc) 2)) < 18446744073709551616 := Nat.lt_of_le_of_lt (Nat.div_le_self _ _) (Nat.mod_lt _ (by decide))
    have hj := Join_none (n := n) (neg := neg) (ones := decide (0 ≤ sc / 4)) (run := (runS sc : Int)) (rg := sc / 4) (eb := ((min (n - 2 - runS sc) 2 : Nat) : Int)) (ex := sc % 4) (fb := ((n - 2 - runS sc - min (n - 2 - runS sc) 2 : Nat) : Int)) (fr := ((fr * 2 % 18446744073709551616 / 2 ^ (64 - (n - 2 - runS sc - min (n - 2 - runS sc) 2)) : Nat) : Int)) h ⟨Int.natCast_nonneg _, Int.ofNat_lt.mpr hb⟩ (fun p hp => hg ⟨p, hp⟩)
    have hd := Decode_ev (p := 0) h (by decide)
    refine Ev.bind hj (Ev.bind hd ?_)
    exact Ev.congr (fun k => if_neg (by simp)) (Ev.now _)
theorem and3 (x : Int) : Go.bits .and .i64 x 3 = x % 4 := by
  simp only [bits]
  have h1 : (BitVec.ofInt IntKind.i64.bits x &&& BitVec.ofInt IntKind.i64.bits 3).toNat = (x % 4).toNat := by
    show (BitVec.ofInt 64 x &&& BitVec.ofInt 64 3).toNat = _
    rw [BitVec.toNat_and, BitVec.toNat_ofInt, BitVec.toNat_ofInt]
    rw [show ((3 : Int) % ((2 ^ 64 : Nat) : Int)).toNat = 2 ^ 2 - 1 from rfl, Nat.and_two_pow_sub_one_eq_mod]
    rw [show ((2 ^ 64 : Nat) : Int) = 18446744073709551616 from rfl, show (2 : Nat) ^ 2 = 4 from rfl]
    omega
  rw [h1]
  have h2 : 0 ≤ x % 4 ∧ x % 4 < 4 := by omega
  rw [Int.toNat_of_nonneg h2.1]
  simp [IntKind.wrap, IntKind.bits, IntKind.signed]
  omega
/-- What both answer of any number: no width; no such number; nought; NaR; the pattern; none. -/
theorem Encode_no {a kind : Int} {neg : Bool} {sc fr : Int} (h : NoW a) : Ev (fun k => codec_Encode.f k a kind neg sc fr) (0, some 2) := by
  unfold codec_Encode.f
  rw [Of_no h]
  simp only [Option.bind_some, Option.isNone_some, Bool.false_eq_true, ↓reduceIte, Option.getD_some]
  exact Ev.now _
theorem Enc_start {n : Nat} {kind : Int} {neg : Bool} {sc : Int} {fr : Nat} {r : Int × Option Int} (h : Wd n) (hfr : fr < 18446744073709551616)
    (hr : Ev (fun k => if sndB kind neg sc (fr : Int) = true then (if kind = 0 then some (0, none) else if kind = 2 then some (((2 ^ (n - 1) : Nat) : Int), none) else if sc < -((4 * n - 8 : Nat) : Int) then some (0, some 8) else if sc > ((4 * n - 8 : Nat) : Int) then some (0, some 8) else codec_Encode.j0 k (n : Int) kind neg sc (fr : Int) neg (decide (0 ≤ sc / 4)) (runS sc : Int) (sc / 4) 0 (sc % 4) 0 0) else some (0, some 1)) r) : Ev (fun k => codec_Encode.f k (n : Int) kind neg sc (fr : Int)) r := by
  have hn := h.ge
  have hl := h.le
  unfold codec_Encode.f
  rw [Of_eq h]
  simp only [Option.bind_some, Option.isNone_none, ↓reduceIte]
  refine Ev.bind (sound_ev (by omega) (by omega)) ?_
  refine Ev.congr (fun k => ?_) hr
  rw [w64 (x := -((4 * n - 8 : Nat) : Int)) (by omega) (by omega)]
  split
  · split
    · rfl
    · split
      · rfl
      · split
        · rfl
        · split
          · rfl
          · rename_i c1 c2
            rw [and3]
            by_cases hk : sc / 4 ≥ 0
            · have e : wrap64 (sc / 4 + 1) = (runS sc : Int) := by unfold runS; rw [if_pos hk, w64 (by omega) (by omega)]; omega
              rw [if_pos hk, e]
            · have e : wrap64 (-(sc / 4)) = (runS sc : Int) := by unfold runS; rw [if_neg hk, w64 (by omega) (by omega)]; omega
              rw [if_neg hk, e]
  · rfl
theorem Encode_bad {n : Nat} {kind : Int} {neg : Bool} {sc : Int} {fr : Nat} (h : Wd n) (hfr : fr < 18446744073709551616) (hs : sndB kind neg sc (fr : Int) = false) : Ev (fun k => codec_Encode.f k (n : Int) kind neg sc (fr : Int)) (0, some 1) :=
  Enc_start h hfr (Ev.congr (fun k => if_neg (by rw [hs]; decide)) (Ev.now _))
theorem Encode_zero {n : Nat} {neg : Bool} {sc : Int} {fr : Nat} (h : Wd n) (hfr : fr < 18446744073709551616) (hs : sndB 0 neg sc (fr : Int) = true) : Ev (fun k => codec_Encode.f k (n : Int) 0 neg sc (fr : Int)) (0, none) :=
  Enc_start h hfr (Ev.congr (fun k => by rw [if_pos hs, if_pos rfl]) (Ev.now _))
theorem Encode_nar {n : Nat} {neg : Bool} {sc : Int} {fr : Nat} (h : Wd n) (hfr : fr < 18446744073709551616) (hs : sndB 2 neg sc (fr : Int) = true) : Ev (fun k => codec_Encode.f k (n : Int) 2 neg sc (fr : Int)) (((2 ^ (n - 1) : Nat) : Int), none) :=
  Enc_start h hfr (Ev.congr (fun k => by rw [if_pos hs, if_neg (by decide), if_pos rfl]) (Ev.now _))
theorem sc_range {n p : Nat} {neg : Bool} {sc fr : Int} (h : Wd n) (g : GoodX n neg sc fr p) : -((4 * n - 8 : Nat) : Int) ≤ sc ∧ sc ≤ ((4 * n - 8 : Nat) : Int) := by
  obtain ⟨hp, hk, h1, h2, h3⟩ := g
  have hn := h.ge
  have hl := h.le
  have hw : p < 18446744073709551616 := Nat.lt_of_lt_of_le hp (pow_le64 h.le)
  have hr := runN_le (abN n p) (n - 1)
  have hr0 := runN_pos (x := abN n p) (n := n - 1) (by omega)
  have hx := exN_lt (abN n p) (n - 1)
  have hpos := ab_pos h hw hk
  have hlt := Nat.mod_lt (abN n p) (Nat.pow_pos (n := n - 1) (show 0 < 2 by decide))
  have hb := whole_split (x := abN n p) (w := n - 1) (by omega)
  have heb := ebN (abN n p) (n - 1)
  rw [← h2]
  unfold scI rgI
  by_cases ht : topB (abN n p) (n - 1) = true
  · rw [if_pos ht]
    by_cases hr1 : runN (abN n p) (n - 1) = n - 1
    · have e0 : ebN (abN n p) (n - 1) = 0 := by unfold ebN lfN; omega
      have e1 : exN (abN n p) (n - 1) = 0 := by
        have := eN_lt (abN n p) (n - 1)
        rw [e0] at this
        unfold exN; rw [show eN (abN n p) (n - 1) = 0 by simpa using this]; simp
      omega
    · omega
  · rw [if_neg ht]
    have hr1 : runN (abN n p) (n - 1) ≠ n - 1 := by
      intro hh
      have e0 : ebN (abN n p) (n - 1) = 0 := by unfold ebN lfN; omega
      have e2 : fbN (abN n p) (n - 1) = 0 := by unfold fbN lfN; omega
      have e1 := eN_lt (abN n p) (n - 1)
      have e3 := frN_lt (abN n p) (n - 1)
      rw [e0] at e1
      rw [e2] at e3
      unfold baseN at hb
      rw [if_neg ht, if_neg (by omega), show eN (abN n p) (n - 1) = 0 by simpa using e1, show frN (abN n p) (n - 1) = 0 by simpa using e3] at hb
      omega
    omega
theorem Encode_good {n p : Nat} {neg : Bool} {sc : Int} {fr : Nat} (h : Wd n) (hfr : fr < 18446744073709551616) (g : GoodX n neg sc (fr : Int) p) : Ev (fun k => codec_Encode.f k (n : Int) 1 neg sc (fr : Int)) ((p : Int), none) := by
  obtain ⟨h0, h1⟩ := sc_range h g
  have hl := h.le
  have hs : sndB 1 neg sc (fr : Int) = true := by
    have h3 := g.2.2.2.2
    unfold mtN at h3
    unfold sndB
    rw [if_neg (by decide), decide_eq_true_eq]
    omega
  exact Enc_start h hfr (Ev.congr (fun k => by rw [if_pos hs, if_neg (by decide), if_neg (by decide), if_neg (by omega), if_neg (by omega)]) (Enc_in_good h h0 h1 hfr g))
theorem Encode_none {n : Nat} {neg : Bool} {sc : Int} {fr : Nat} (h : Wd n) (hfr : fr < 18446744073709551616) (hs : sndB 1 neg sc (fr : Int) = true) (hno : ∀ p, ¬ GoodX n neg sc (fr : Int) p) : Ev (fun k => codec_Encode.f k (n : Int) 1 neg sc (fr : Int)) (0, some 8) := by
  by_cases h0 : sc < -((4 * n - 8 : Nat) : Int)
  · exact Enc_start h hfr (Ev.congr (fun k => by rw [if_pos hs, if_neg (by decide), if_neg (by decide), if_pos h0]) (Ev.now _))
  · by_cases h1 : sc > ((4 * n - 8 : Nat) : Int)
    · exact Enc_start h hfr (Ev.congr (fun k => by rw [if_pos hs, if_neg (by decide), if_neg (by decide), if_neg h0, if_pos h1]) (Ev.now _))
    · exact Enc_start h hfr (Ev.congr (fun k => by rw [if_pos hs, if_neg (by decide), if_neg (by decide), if_neg h0, if_neg h1]) (Enc_in_none h (by omega) (by omega) hfr hno))
theorem up06 : Ev (fun k => vernierlaw06_up.f k) true := by
  have e1 := Decode_ev (n := 8) (p := 68) (Or.inl rfl) (by decide)
  have t1 : meansT 8 68 (none : Option Int) = (1, false, 0, 13835058055282163712, none) := by decide +kernel
  have g : GoodX 8 false 18 ((9223372036854775808 : Nat) : Int) 125 := by
    refine ⟨by decide, by decide +kernel, by decide +kernel, by decide +kernel, by decide +kernel⟩
  have e2 := Encode_good (n := 8) (Or.inl rfl) (by decide) g
  rw [t1] at e1
  unfold vernierlaw06_up.f
  refine Ev.bind e1 (Ev.bind e2 ?_)
  exact Ev.now _
end Go.Proofs.Ytmofdimkdkfdgaa.M
