/- flt.To64: the float64 nearest to a pattern's number. -/
import Derived.Test.YtpdpggndhmnggaaF3g
import Derived.Test.YtpdpggndhmnggaaF12g
import Derived.Test.YtpdpggndhmnggaaF13g
import Derived.Test.YtpdpggndhmnggaaFlo7g
import Derived.Test.YtpdpggndhmnggaaCod6g
namespace Go.Proofs.Ytpdpggndhmnggaa.M
open Go.RowKit Go.Proofs.YtpdpggndhmnggaaW.PrintWords Go.Proofs.YtpdpggndhmnggaaW.PrintLast Go.Proofs.YtpdpggndhmnggaaW.PrintMore Go.Proofs.Ytpdpggndhmnggaa.F
set_option linter.unusedVariables false
set_option linter.unusedSimpArgs false
theorem cutN_bounds {v k : Nat} : v / 2 ^ k ≤ cutN v k ∧ cutN v k ≤ v / 2 ^ k + 1 := by
  unfold cutN; split <;> omega
theorem cut11 {fr : Nat} (h1 : 9223372036854775808 ≤ fr) (h2 : fr < 18446744073709551616) : 4503599627370496 ≤ cutN fr 11 ∧ cutN fr 11 ≤ 9007199254740992 := by
  have h := @cutN_bounds fr 11
  rw [show (2 ^ 11 : Nat) = 2048 from rfl] at h
  omega
/-- A whole number of 53 digits as a float. -/
theorem intF {c : Nat} (h1 : 4503599627370496 ≤ c) (h2 : c ≤ 9007199254740992) : floatOfInt .f64 (c : Int) = 4836865999795912704 + c := by
  show Ieee.double.nearest (decide ((c : Int) < 0)) (c : Int).natAbs 0 = _
  rw [decide_eq_false (by omega), Int.natAbs_natCast]
  by_cases h : c = 9007199254740992
  · subst h
    have := near_of (M := 4503599627370496) (P := 1) (j := 1) false (by decide) (by decide) (by decide) (by decide)
    rw [show (4503599627370496 * 2 ^ 1 : Nat) = 9007199254740992 from rfl, show (1 : Int) - ((1 : Nat) : Int) = 0 from rfl] at this
    rw [this]; rfl
  · have := near_of (M := c) (P := 0) (j := 0) false h1 (by omega) (by decide) (by decide)
    rw [Nat.pow_zero, Nat.mul_one, show (0 : Int) - ((0 : Nat) : Int) = 0 from rfl] at this
    rw [this, word_plain]
    unfold wordD
    rw [show ((0 : Int) + 1074).toNat * 4503599627370496 = 4836865999795912704 from rfl]
/-- Ldexp of a whole number of 53 digits. -/
theorem Ld_cut {c : Nat} {s : Int} (h1 : 4503599627370496 ≤ c) (h2 : c ≤ 9007199254740992) (s0 : -1022 ≤ s) (s1 : s ≤ 1022) : math_Ldexp.f (4836865999795912704 + c) (s - 52) = some ((s + 1022).toNat * 4503599627370496 + c) := by
  by_cases h : c = 9007199254740992
  · subst h
    exact Ldexp_eqX (E := 1076) (F := (s + 1024).toNat) (m := 0) (by decide) (by decide) (by decide) (by omega) (by omega) (by omega) (by decide) (by omega)
  · exact Ldexp_eqX (E := 1075) (F := (s + 1023).toNat) (m := c - 4503599627370496) (by decide) (by decide) (by omega) (by omega) (by omega) (by omega) (by omega) (by omega)
theorem negF {w : Nat} (h : w < 9223372036854775808) : Op.negFloat .f64 w = 9223372036854775808 + w := by
  show w ^^^ 2 ^ 63 = 2 ^ 63 + w
  have h63 : (2 : Nat) ^ 63 = 9223372036854775808 := by decide
  apply Nat.eq_of_testBit_eq
  intro i
  rw [Nat.testBit_xor, Nat.testBit_two_pow]
  rcases Nat.lt_trichotomy i 63 with hi | hi | hi
  · rw [Nat.testBit_two_pow_add_gt hi, decide_eq_false (by omega), Bool.xor_false]
  · subst hi; rw [Nat.testBit_two_pow_add_eq, decide_eq_true rfl, Bool.xor_true]
  · rw [decide_eq_false (by omega), Bool.xor_false]
    have hp : 2 ^ 64 ≤ 2 ^ i := Nat.pow_le_pow_right (by decide) hi
    have h64 : (2 : Nat) ^ 64 = 18446744073709551616 := by decide
    rw [Nat.testBit_lt_two_pow (by omega), Nat.testBit_lt_two_pow (by omega)]
/-- The word without sign that a real pattern's number is rounded to. -/
def toD (sc : Int) (fr : Nat) : Nat := (sc + 1022).toNat * 4503599627370496 + cutN fr 11
theorem toD_lt {sc : Int} {fr : Nat} (s0 : -1022 ≤ sc) (s1 : sc ≤ 1022) (h1 : 9223372036854775808 ≤ fr) (h2 : fr < 18446744073709551616) : toD sc fr < 9218868437227405312 ∧ 4503599627370496 ≤ toD sc fr := by
  have := cut11 h1 h2
  unfold toD
  omega
theorem sc_real {n p : Nat} (h : Wd n) : -1000 ≤ scI (abN n p) (n - 1) ∧ scI (abN n p) (n - 1) ≤ 1003 := by
  have hw : n ≤ 64 := by unfold Wd at h; omega
  have := sc_bound (x := abN n p) (w := n - 1) (by omega)
  have := exN_lt (abN n p) (n - 1)
  unfold scI
  omega
theorem mt_ge (x w : Nat) : 9223372036854775808 ≤ mtN x w := by unfold mtN; omega
/-- What To64 answers. -/
def toT (n p : Nat) : Nat := if kindN n p = 1 then (if topB p n = true then 9223372036854775808 else 0) + toD (scI (abN n p) (n - 1)) (mtN (abN n p) (n - 1)) else if kindN n p = 2 then 9221120237041090561 else 0
theorem To64_ev {n p : Nat} (h : Wd n) (hp : p < 18446744073709551616) : Ev (fun k => flt_To64.f k (n : Int) (p : Int)) (toT n p, none) := by
  have hd := Decode_ev h hp
  unfold flt_To64.f
  refine Ev.bind hd ?_
  rcases kind_cases n p with ⟨hk, _⟩ | ⟨hk, _⟩ | hk
  · have e : meansT n p (none : Option Int) = (0, false, 0, 0, none) := by unfold meansT; rw [if_neg (by rw [hk]; decide), hk]
    have e2 : toT n p = 0 := by unfold toT; rw [if_neg (by rw [hk]; decide), if_neg (by rw [hk]; decide)]
    rw [e, e2]
    exact Ev.congr (fun k => (if_pos rfl).trans ((if_neg (show ¬ ((0 : Int) = 2) by decide)).trans (if_pos rfl))) (Ev.now _)
  · have e : meansT n p (none : Option Int) = (2, false, 0, 0, none) := by unfold meansT; rw [if_neg (by rw [hk]; decide), hk]
    have e2 : toT n p = 9221120237041090561 := by unfold toT; rw [if_neg (by rw [hk]; decide), if_pos hk]
    rw [e, e2]
    refine Ev.congr (fun k => (if_pos rfl).trans (if_pos rfl)) ?_
    unfold math_NaN.f math_Float64frombits.f
    exact Ev.now _
  · rw [means_real hk]
    unfold toT
    rw [if_pos hk]
    obtain ⟨s0, s1⟩ := @sc_real n p h
    have f0 := mt_ge (abN n p) (n - 1)
    have f1 := mt_word (n := n) (p := p) h
    generalize scI (abN n p) (n - 1) = sc at *
    generalize mtN (abN n p) (n - 1) = fr at *
    generalize topB p n = ng
    refine Ev.congr (fun k => (if_pos rfl).trans ((if_neg (show ¬ ((1 : Int) = 2) by decide)).trans (if_neg (show ¬ ((1 : Int) = 0) by decide)))) ?_
    have hc := cut_eq (v := fr) (k := 11) f1 (by decide) (by decide)
    refine Ev.bindp hc ?_
    obtain ⟨c1, c2⟩ := cut11 f0 f1
    refine Ev.congr (fun k => if_pos rfl) ?_
    dsimp only
    rw [intF c1 c2, w64 (x := sc - 52) (by omega) (by omega)]
    refine Ev.bindp (Ld_cut c1 c2 (by omega) (by omega)) ?_
    have hl := (toD_lt (sc := sc) (by omega) (by omega) f0 f1).1
    unfold toD at hl ⊢
    cases ng
    · rw [show (if false = true then 9223372036854775808 else 0 : Nat) = 0 from rfl, Nat.zero_add]
      exact Ev.congr (fun k => if_neg (by decide)) (Ev.now _)
    · rw [show (if true = true then 9223372036854775808 else 0 : Nat) = 9223372036854775808 from rfl]
      refine Ev.congr (fun k => (if_pos rfl).trans (if_pos rfl)) ?_
      rw [negF (by omega)]
      exact Ev.now _
end Go.Proofs.Ytpdpggndhmnggaa.M
