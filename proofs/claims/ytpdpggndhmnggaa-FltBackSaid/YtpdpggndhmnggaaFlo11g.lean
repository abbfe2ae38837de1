/- flt.From32: a float32 as float64; the reference's Form.From of float32. -/
import Derived.Test.YtpdpggndhmnggaaF12g
import Derived.Test.YtpdpggndhmnggaaF15g
import Derived.Test.YtpdpggndhmnggaaF40g
import Derived.Test.YtpdpggndhmnggaaFlo10g
namespace Go.Proofs.Ytpdpggndhmnggaa.M
open Go.RowKit Go.Proofs.YtpdpggndhmnggaaW.PrintWords Go.Proofs.YtpdpggndhmnggaaW.PrintLast Go.Proofs.YtpdpggndhmnggaaW.PrintMore Go.Proofs.Ytpdpggndhmnggaa.F
set_option linter.unusedVariables false
set_option linter.unusedSimpArgs false
theorem s_read (b : Nat) : FloatKind.f32.decode b =
    if b % 2147483648 < 8388608 then .number (b / 2147483648 % 2 == 1) (b % 2147483648) (-149)
    else if b % 2147483648 < 2139095040 then .number (b / 2147483648 % 2 == 1) (8388608 + b % 2147483648 % 8388608) (-149 + (b % 2147483648 / 8388608 - 1 : Nat))
    else if b % 2147483648 = 2139095040 then .infinity (b / 2147483648 % 2 == 1)
    else .nan (b / 2147483648 % 2 == 1) (b % 2147483648 - 2139095040) := rfl
theorem nanB_eq (b : Nat) : nanB .f32 b = decide (2139095040 < b % 2147483648) := by
  unfold nanB
  rw [s_read]
  by_cases c1 : b % 2147483648 < 8388608
  · rw [if_pos c1, decide_eq_false (by omega)]
  · rw [if_neg c1]
    by_cases c2 : b % 2147483648 < 2139095040
    · rw [if_pos c2, decide_eq_false (by omega)]
    · rw [if_neg c2]
      by_cases c3 : b % 2147483648 = 2139095040
      · rw [if_pos c3, decide_eq_false (by omega)]
      · rw [if_neg c3, decide_eq_true (by omega)]
/-- The digits of a float32's number and the place of the last. -/
def m32 (a : Nat) : Nat := if a % 2147483648 < 8388608 then a % 2147483648 else 8388608 + a % 2147483648 % 8388608
def e32 (a : Nat) : Int := if a % 2147483648 < 8388608 then -149 else -149 + (a % 2147483648 / 8388608 - 1 : Nat)
theorem num32 {a : Nat} (h : a % 2147483648 < 2139095040) : FloatKind.f32.decode a = .number (a / 2147483648 % 2 == 1) (m32 a) (e32 a) := by
  rw [s_read]
  unfold m32 e32
  by_cases c1 : a % 2147483648 < 8388608
  · rw [if_pos c1, if_pos c1, if_pos c1]
  · rw [if_neg c1, if_neg c1, if_neg c1, if_pos h]
theorem m32_lt (a : Nat) : m32 a < 16777216 := by unfold m32; split <;> omega
theorem e32_bounds {a : Nat} (h : a % 2147483648 < 2139095040) : -149 ≤ e32 a ∧ e32 a ≤ 104 := by unfold e32; split <;> omega
/-- The float64 that is a number of at most 24 digits. -/
theorem wide_of {m : Nat} {e : Int} (neg : Bool) (h0 : 0 < m) (h1 : m < 16777216) (e0 : -149 ≤ e) (e1 : e ≤ 104) :
    Ieee.double.nearest neg m e = Ieee.double.word neg (wordD (m * 2 ^ (53 - blen m)) (e - (53 - blen m : Nat))) ∧ 4503599627370496 ≤ m * 2 ^ (53 - blen m) ∧ m * 2 ^ (53 - blen m) < 9007199254740992 ∧ blen m ≤ 24 := by
  have hb1 : blen m ≤ 24 := blen_le_of h1
  have hle := blen_le h0
  have hlt := lt_blen m
  have hb0 := blen_pos h0
  have hp : 0 < 2 ^ (53 - blen m) := Nat.pow_pos (by decide)
  have m1 : 4503599627370496 ≤ m * 2 ^ (53 - blen m) := by
    rw [show (4503599627370496 : Nat) = 2 ^ (blen m - 1) * 2 ^ (53 - blen m) by rw [← Nat.pow_add, show blen m - 1 + (53 - blen m) = 52 by omega]]
    exact Nat.mul_le_mul_right _ hle
  have m2 : m * 2 ^ (53 - blen m) < 9007199254740992 := by
    rw [show (9007199254740992 : Nat) = 2 ^ blen m * 2 ^ (53 - blen m) by rw [← Nat.pow_add, show blen m + (53 - blen m) = 53 by omega]]
    exact (Nat.mul_lt_mul_right hp).2 hlt
  refine ⟨?_, m1, m2, hb1⟩
  have := near_small (M := m * 2 ^ (53 - blen m)) (m := m) (P := e - (53 - blen m : Nat)) (i := 53 - blen m) neg rfl m1 m2 (by omega) (by omega)
  rw [show e - ((53 - blen m : Nat) : Int) + ((53 - blen m : Nat) : Int) = e by omega] at this
  exact this
theorem word_sign (neg : Bool) (x : Nat) : Ieee.double.word neg x = (if neg = true then 9223372036854775808 else 0) + x := by
  unfold Ieee.Format.word
  cases neg
  · simp
  · rfl
theorem wordD_read {M : Nat} {P : Int} (h1 : 4503599627370496 ≤ M) (h2 : M < 9007199254740992) (p0 : -1074 ≤ P) (p1 : P ≤ 971) :
    0 < wordD M P ∧ wordD M P < 9218868437227405312 ∧ mD (wordD M P) = M ∧ pD (wordD M P) = P := by
  unfold wordD mD pD
  obtain ⟨q, hq⟩ : ∃ q : Nat, q = (P + 1074).toNat := ⟨_, rfl⟩
  have hq2 : q ≤ 2045 := by omega
  have hP : P = (q : Int) - 1074 := by omega
  rw [← hq]
  have c : ¬ q * 4503599627370496 + M < 4503599627370496 := by omega
  have d1 : (q * 4503599627370496 + M) / 4503599627370496 = q + 1 := by omega
  have d2 : (q * 4503599627370496 + M) % 4503599627370496 = M - 4503599627370496 := by omega
  rw [if_neg c, if_neg c, d1, d2]
  refine ⟨by omega, by omega, by omega, by omega⟩
theorem conv32 {a : Nat} (h : a % 2147483648 < 2139095040) : ∃ v, floatToFloatBits .f32 a .f64 = some v ∧ v < 18446744073709551616 ∧ v % 9223372036854775808 < 9218868437227405312 ∧ (v / 9223372036854775808 == 1) = (a / 2147483648 % 2 == 1) ∧ (0 < v % 9223372036854775808 ↔ 0 < m32 a) ∧ ∀ n, rdF n v = rdV n (a / 2147483648 % 2 == 1) (e32 a) (m32 a) := by
  have hm := m32_lt a
  obtain ⟨e0, e1⟩ := e32_bounds h
  have hu : floatToFloatBits .f32 a .f64 = if (FloatKind.f64.decode (Ieee.double.nearest (a / 2147483648 % 2 == 1) (m32 a) (e32 a))).isInfinity then none else some (Ieee.double.nearest (a / 2147483648 % 2 == 1) (m32 a) (e32 a)) := by
    unfold floatToFloatBits
    rw [if_neg (by decide), num32 h]
    rfl
  generalize (a / 2147483648 % 2 == 1) = neg at *
  generalize e32 a = e at *
  generalize m32 a = m at *
  have hfin : ∀ v : Nat, v % 9223372036854775808 < 9218868437227405312 → (FloatKind.f64.decode v).isInfinity = false := by
    intro v hv
    have e : FloatKind.f64.decode v = Ieee.double.read v := rfl
    rw [e, d_read]
    by_cases c1 : v % 9223372036854775808 < 4503599627370496
    · rw [if_pos c1]; rfl
    · rw [if_neg c1, if_pos hv]; rfl
  obtain ⟨x, hx, hx2, hx3, hx4⟩ : ∃ x, Ieee.double.nearest neg m e = Ieee.double.word neg x ∧ x < 9218868437227405312 ∧ (0 < x ↔ 0 < m) ∧ (∀ n, (if x = 0 then 0 else rdV n neg (pD x) (mD x)) = rdV n neg e m) := by
    rcases Nat.eq_zero_or_pos m with z | z
    · subst z
      refine ⟨0, rfl, by decide, Iff.rfl, fun n => ?_⟩
      rw [if_pos rfl]; unfold rdV; rw [if_pos rfl]
    · obtain ⟨w1, w2, w3, w4⟩ := wide_of (e := e) neg z hm e0 e1
      have hb0 := blen_pos z
      obtain ⟨r1, r2, r3, r4⟩ := wordD_read (P := e - (53 - blen m : Nat)) w2 w3 (by omega) (by omega)
      refine ⟨_, w1, r2, ⟨fun _ => z, fun _ => r1⟩, fun n => ?_⟩
      rw [if_neg (by omega), r3, r4]
      exact rdV_shl (by omega)
  have hx1 := word_sign neg x
  rw [hx] at hu
  refine ⟨Ieee.double.word neg x, ?_, ?_⟩
  · rw [hu, hfin _ (by rw [hx1]; split <;> omega)]
    rfl
  · rw [hx1]
    cases neg
    · rw [if_neg (by decide), Nat.zero_add]
      refine ⟨by omega, by omega, ?_, ?_, fun n => ?_⟩
      · rw [Nat.div_eq_of_lt (by omega)]; rfl
      · rw [Nat.mod_eq_of_lt (by omega)]; exact hx3
      · unfold rdF
        rw [Nat.mod_eq_of_lt (by omega), Nat.div_eq_of_lt (by omega)]
        exact hx4 n
    · rw [if_pos rfl]
      have d1 : (9223372036854775808 + x) / 9223372036854775808 = 1 := by omega
      have d2 : (9223372036854775808 + x) % 9223372036854775808 = x := by omega
      refine ⟨by omega, by omega, ?_, ?_, fun n => ?_⟩
      · rw [d1]; rfl
      · rw [d2]; exact hx3
      · unfold rdF
        rw [d1, d2]
        exact hx4 n
theorem conv32_inf {a : Nat} (h : a % 2147483648 = 2139095040) : ∃ v, floatToFloatBits .f32 a .f64 = some v ∧ v < 18446744073709551616 ∧ v % 9223372036854775808 = 9218868437227405312 := by
  have hd : FloatKind.f32.decode a = .infinity (a / 2147483648 % 2 == 1) := by rw [s_read, if_neg (by omega), if_neg (by omega), if_pos h]
  refine ⟨Ieee.double.word (a / 2147483648 % 2 == 1) 9218868437227405312, ?_, ?_⟩
  · unfold floatToFloatBits
    rw [if_neg (by decide), hd]; rfl
  · rw [word_sign]; split <;> omega
/-- What a float32 is rounded to. -/
def rd32 (n a : Nat) : Nat := if 2139095040 ≤ a % 2147483648 then 2 ^ (n - 1) else rdV n (a / 2147483648 % 2 == 1) (e32 a) (m32 a)
theorem From32_ev {n a : Nat} (hn : Wd n) : Ev (fun k => flt_From32N.f k (n : Int) a) (((rd32 n a : Nat) : Int), none) := by
  unfold flt_From32N.f rd32
  by_cases c : 2139095040 < a % 2147483648
  · rw [nanB_eq, decide_eq_true c, if_pos (show 2139095040 ≤ a % 2147483648 by omega)]
    exact Ev.congr (fun k => if_pos rfl) (Ev.bind (From64_nar hn (by decide) (by decide)) (Ev.now _))
  · rw [nanB_eq, decide_eq_false c]
    refine Ev.congr (fun k => if_neg (by decide)) ?_
    unfold flt_From32.f
    by_cases c2 : a % 2147483648 = 2139095040
    · rw [if_pos (show 2139095040 ≤ a % 2147483648 by omega)]
      obtain ⟨v, hv, v1, v2⟩ := conv32_inf c2
      rw [hv]
      exact Ev.congr (fun k => if_pos rfl) (Ev.bind (From64_nar hn v1 (by show 9218868437227405312 ≤ v % 9223372036854775808; omega)) (Ev.now _))
    · rw [if_neg (show ¬ 2139095040 ≤ a % 2147483648 by omega)]
      obtain ⟨v, hv, v1, v2, v3, v4, v5⟩ := conv32 (a := a) (by omega)
      rw [hv]
      have := From64_fin hn v1 v2
      rw [v5 n] at this
      exact Ev.congr (fun k => if_pos rfl) (Ev.bind this (Ev.now _))
end Go.Proofs.Ytpdpggndhmnggaa.M
