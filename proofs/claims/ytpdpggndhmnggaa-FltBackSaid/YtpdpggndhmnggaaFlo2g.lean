/- math.Frexp and math.Ldexp by the bits. -/
import Derived.Test.YtpdpggndhmnggaaF3g
import Derived.Test.YtpdpggndhmnggaaFlo1g
namespace Go.Proofs.Ytpdpggndhmnggaa.M
open Go.RowKit Go.Proofs.YtpdpggndhmnggaaW.PrintWords Go.Proofs.YtpdpggndhmnggaaW.PrintLast Go.Proofs.YtpdpggndhmnggaaW.PrintMore Go.Proofs.Ytpdpggndhmnggaa.F
set_option linter.unusedVariables false
set_option linter.unusedSimpArgs false
theorem i64_keep (n : Int) (h0 : 0 ≤ n) (h1 : n < 2 ^ 63) : IntKind.i64.wrap n = n := by
  rw [IntKind.wrap_i64]; omega
theorem andi_nat {a b : Nat} (ha : a < 9223372036854775808) (hb : b < 9223372036854775808) : Go.bits .and .i64 (a : Int) (b : Int) = ((a &&& b : Nat) : Int) :=
  (bits_nat .i64 63 (by decide) i64_keep a b ha hb).1
theorem or_addF {a b n : Nat} (hb : b < 18446744073709551616) (hn : n ≤ 64) (ha : a < 2 ^ n) (hm : b % 2 ^ n = 0) : Go.bits .or .u64 (a : Int) (b : Int) = ((b + a : Nat) : Int) := by
  have h1 : 2 ^ n ≤ 2 ^ 64 := Nat.pow_le_pow_right (by decide) hn
  have h2 : (2 : Nat) ^ 64 = 18446744073709551616 := by decide
  have h := or_add hb hn hm ha
  rw [or_nat hb (by omega)] at h
  rw [or_nat (by omega) hb, Nat.or_comm]
  exact h
/-- A word of a normal number without its exponent. -/
theorem bare {E m : Nat} (hE : E < 2048) (hm : m < 4503599627370496) : Go.bits .andNot .u64 ((E * 4503599627370496 + m : Nat) : Int) 9218868437227405312 = ((m : Nat) : Int) := by
  have hx : E * 4503599627370496 + m < 18446744073709551616 := by omega
  have h2 := mask_place (x := E * 4503599627370496 + m) (a := 52) (n := 11) hx (by decide)
  rw [show ((2 ^ 11 - 1) * 2 ^ 52 : Nat) = 9218868437227405312 from rfl, show (2 ^ 52 : Nat) = 4503599627370496 from rfl, show (2 ^ 11 : Nat) = 2048 from rfl] at h2
  have e : (9218868437227405312 : Int) = ((9218868437227405312 : Nat) : Int) := rfl
  rw [e, andNot_nat hx (by decide), h2]
  congr 1
  omega
theorem ord_zero {r : Nat} (h : r < 9223372036854775808) : (FloatKind.f64.format.order r 0 == some .eq) = decide (r = 0) := by
  show ((Ieee.double.read r).order (Ieee.double.read 0) == some .eq) = _
  rw [show Ieee.double.read 0 = .number false 0 (-1074) from rfl]
  have hk : ∀ (m : Nat) (P : Int), 0 < m → (some (compare (Ieee.signed false m (P - min P (-1074)).toNat) (Ieee.signed false 0 (-1074 - min P (-1074)).toNat)) == some Ordering.eq) = false := by
    intro m P hm
    have : Ieee.signed false 0 (-1074 - min P (-1074)).toNat < Ieee.signed false m (P - min P (-1074)).toNat := by
      show ((0 <<< _ : Nat) : Int) < ((m <<< _ : Nat) : Int)
      rw [Nat.zero_shiftLeft, Nat.shiftLeft_eq]
      have := Nat.mul_pos hm (Nat.pow_pos (n := (P - min P (-1074)).toNat) (show 0 < 2 by decide))
      omega
    rw [icmp_gt this]; rfl
  by_cases c1 : r < 4503599627370496
  · rw [read_low c1]
    by_cases c0 : r = 0
    · subst c0; rfl
    · rw [decide_eq_false c0]; exact hk r (-1074) (by omega)
  · rw [decide_eq_false (by omega)]
    by_cases c2 : r < 9218868437227405312
    · rw [read_high (by omega) c2]; exact hk _ _ (by omega)
    · rw [d_read, Nat.mod_eq_of_lt h, if_neg c1, if_neg c2]
      by_cases c3 : r = 9218868437227405312
      · rw [if_pos c3, Nat.div_eq_of_lt h]; rfl
      · rw [if_neg c3]; rfl
theorem ord_small {r : Nat} (h : r < 9218868437227405312) : (FloatKind.f64.format.order r 4503599627370496 == some .lt) = decide (r < 4503599627370496) := by
  show ((Ieee.double.read r).order (Ieee.double.read 4503599627370496) == some .lt) = _
  rw [show Ieee.double.read 4503599627370496 = .number false 4503599627370496 (-1074) from rfl]
  by_cases c1 : r < 4503599627370496
  · rw [read_low c1, decide_eq_true c1]
    show (some (compare (Ieee.signed false r ((-1074 : Int) - min (-1074) (-1074)).toNat) (Ieee.signed false 4503599627370496 ((-1074 : Int) - min (-1074) (-1074)).toNat)) == some Ordering.lt) = true
    have : Ieee.signed false r ((-1074 : Int) - min (-1074) (-1074)).toNat < Ieee.signed false 4503599627370496 ((-1074 : Int) - min (-1074) (-1074)).toNat := by
      show ((r <<< 0 : Nat) : Int) < ((4503599627370496 <<< 0 : Nat) : Int)
      rw [Nat.shiftLeft_zero, Nat.shiftLeft_zero]; omega
    rw [icmp_lt this]; rfl
  · rw [read_high (by omega) h, decide_eq_false c1]
    refine inot_lt ?_
    obtain ⟨q, hq⟩ : ∃ q : Nat, q = r / 4503599627370496 - 1 := ⟨_, rfl⟩
    rw [← hq]
    show ((4503599627370496 <<< _ : Nat) : Int) ≤ (((4503599627370496 + r % 4503599627370496) <<< _ : Nat) : Int)
    rw [show min (-1074 + (q : Int)) (-1074) = -1074 by omega, show ((-1074 : Int) - -1074).toNat = 0 from rfl, Nat.shiftLeft_zero, Nat.shiftLeft_eq]
    have := Nat.pow_pos (n := (-1074 + (q : Int) - -1074).toNat) (show 0 < 2 by decide)
    have := Nat.le_mul_of_pos_right (4503599627370496 + r % 4503599627370496) this
    omega
theorem mul_of {x y m n : Nat} {i j : Int} (hx : Ieee.double.read x = .number false m i) (hy : Ieee.double.read y = .number false n j) :
    floatBits .mul .f64 x y = some (Ieee.double.nearest false (m * n) (i + j)) := by
  show ((Ieee.double.read x).product (Ieee.double.read y)).map Ieee.double.write = _
  rw [hx, hy]
  rfl
theorem norm_high {r : Nat} (h : 4503599627370496 ≤ r) (h2 : r < 9218868437227405312) : math_normalize.f r = some (r, 0) := by
  unfold math_normalize.f
  rw [Abs_eq (by omega), Option.bind_some, Nat.mod_eq_of_lt (by omega), ord_small h2, decide_eq_false (by omega), if_neg (by decide)]
theorem norm_low {r : Nat} (h0 : 0 < r) (h : r < 4503599627370496) : math_normalize.f r = some (blen r * 4503599627370496 + (r * 2 ^ (53 - blen r) - 4503599627370496), -52) ∧ 4503599627370496 ≤ r * 2 ^ (53 - blen r) ∧ r * 2 ^ (53 - blen r) < 9007199254740992 := by
  have hb1 : blen r ≤ 52 := blen_le_of h
  have hb0 := blen_pos h0
  have hle := blen_le h0
  have hlt := lt_blen r
  have hp : 0 < 2 ^ (53 - blen r) := Nat.pow_pos (by decide)
  have m1 : 4503599627370496 ≤ r * 2 ^ (53 - blen r) := by
    rw [show (4503599627370496 : Nat) = 2 ^ (blen r - 1) * 2 ^ (53 - blen r) by rw [← Nat.pow_add, show blen r - 1 + (53 - blen r) = 52 by omega]]
    exact Nat.mul_le_mul_right _ hle
  have m2 : r * 2 ^ (53 - blen r) < 9007199254740992 := by
    rw [show (9007199254740992 : Nat) = 2 ^ blen r * 2 ^ (53 - blen r) by rw [← Nat.pow_add, show blen r + (53 - blen r) = 53 by omega]]
    exact (Nat.mul_lt_mul_right hp).2 hlt
  refine ⟨?_, m1, m2⟩
  unfold math_normalize.f
  rw [Abs_eq (by omega), Option.bind_some, Nat.mod_eq_of_lt (by omega), ord_small (by omega), decide_eq_true h, if_pos rfl]
  have hm := mul_of (read_low h) (show Ieee.double.read 4841369599423283200 = .number false 4503599627370496 0 from rfl)
  have hn := near_of (M := r * 2 ^ (53 - blen r)) (P := (blen r : Int) - 1075) (j := blen r - 1) false m1 m2 (by omega) (by omega)
  rw [Nat.mul_assoc, ← Nat.pow_add, show 53 - blen r + (blen r - 1) = 52 by omega, show (blen r : Int) - 1075 - ((blen r - 1 : Nat) : Int) = -1074 + 0 by omega, show (2 ^ 52 : Nat) = 4503599627370496 from rfl] at hn
  simp only [hm, Option.isSome_some, ↓reduceIte, Option.getD_some, hn]
  have e : Ieee.double.word false (wordD (r * 2 ^ (53 - blen r)) ((blen r : Int) - 1075)) = blen r * 4503599627370496 + (r * 2 ^ (53 - blen r) - 4503599627370496) := by
    show wordD _ _ = _
    unfold wordD
    omega
  rw [e]
/-- The digits of a word's number, 53 of them, and where the last stands. -/
def mD (r : Nat) : Nat := if r < 4503599627370496 then r * 2 ^ (53 - blen r) else 4503599627370496 + r % 4503599627370496
def pD (r : Nat) : Int := if r < 4503599627370496 then (blen r : Int) - 1127 else ((r / 4503599627370496 : Nat) : Int) - 1075
theorem mD_bounds {r : Nat} (h0 : 0 < r) (h : r < 9218868437227405312) : 4503599627370496 ≤ mD r ∧ mD r < 9007199254740992 ∧ -1126 ≤ pD r ∧ pD r ≤ 971 := by
  unfold mD pD
  by_cases c : r < 4503599627370496
  · have hb1 : blen r ≤ 52 := blen_le_of c
    have hb0 := blen_pos h0
    rw [if_pos c, if_pos c]
    exact ⟨(norm_low h0 c).2.1, (norm_low h0 c).2.2, by omega, by omega⟩
  · rw [if_neg c, if_neg c]; omega
theorem expo {E m : Nat} (hE : E < 2048) (hm : m < 4503599627370496) : (((E * 4503599627370496 + m : Nat) : Int) / 4503599627370496) = (E : Int) := by omega
theorem Frexp_ev {r : Nat} (h0 : 0 < r) (h : r < 9218868437227405312) : Ev (fun k => math_Frexp.f k r) (4602678819172646912 + (mD r - 4503599627370496), pD r + 53) := by
  obtain ⟨b1, b2, b3, b4⟩ := mD_bounds h0 h
  unfold math_Frexp.f math_frexp.f
  obtain ⟨fr, hfr⟩ : ∃ fr, fr = 4602678819172646912 + (mD r - 4503599627370496) := ⟨_, rfl⟩
  rw [← hfr]
  refine Ev.bind (a := (fr, pD r + 53)) ?_ (Ev.now _)
  refine Ev.congr (fun k => if_neg (by rw [ord_zero (by omega), decide_eq_false (by omega)]; decide)) ?_
  refine Ev.bindp (IsInf_eq (b := r) (by omega)) ?_
  refine Ev.congr (fun k => if_neg (by rw [decide_eq_false (by omega)]; decide)) ?_
  refine Ev.bindp (IsNaN_eq r) ?_
  rw [decide_eq_false (by omega)]
  have key : ∃ (E m : Nat) (s : Int), math_normalize.f r = some (E * 4503599627370496 + m, s) ∧ E < 2048 ∧ m = mD r - 4503599627370496 ∧ s + (E : Int) - 1022 = pD r + 53 ∧ -52 ≤ s ∧ s ≤ 0 := by
    by_cases c : r < 4503599627370496
    · have hb1 : blen r ≤ 52 := blen_le_of c
      refine ⟨blen r, _, -52, (norm_low h0 c).1, by omega, by unfold mD; rw [if_pos c], by unfold pD; rw [if_pos c]; omega, by omega, by omega⟩
    · refine ⟨r / 4503599627370496, r % 4503599627370496, 0, ?_, by omega, by unfold mD; rw [if_neg c]; omega, by unfold pD; rw [if_neg c]; omega, by omega, by omega⟩
      rw [norm_high (by omega) h]
      congr 2; omega
  obtain ⟨E, m, s, hn, hE, hm, hs, hs0, hs1⟩ := key
  have hm2 : m < 4503599627370496 := by omega
  refine Ev.step (f := fun _ => some (fr, pD r + 53)) (fun k => ?_) (Ev.now _)
  simp only [math_frexp.j0]
  rw [if_neg (by decide), hn]
  simp only [Option.bind_some, math_Float64bits.f, math_Float64frombits.f]
  rw [bare hE hm2, expo hE hm2]
  have e1 : Go.bits .or .u64 (m : Int) 4602678819172646912 = ((4602678819172646912 + m : Nat) : Int) := or_addF (n := 52) (b := 4602678819172646912) (by decide) (by decide) hm2 (by decide)
  have e2 : Go.bits .and .u64 (E : Int) 2047 = (E : Int) := by
    have := and_mask (a := E) (n := 11) (by omega) (by decide)
    rw [show ((2 ^ 11 - 1 : Nat) : Int) = 2047 from rfl, Nat.mod_eq_of_lt (show E < 2 ^ 11 by omega)] at this
    exact this
  rw [e1, e2, Int.toNat_natCast, hfr, ← hm]
  rw [w64 (x := (E : Int)) (by omega) (by omega), w64 (x := (E : Int) - 1023) (by omega) (by omega), w64 (x := (E : Int) - 1023 + 1) (by omega) (by omega), w64 (by omega) (by omega)]
  congr 2; omega
theorem bigF {F m : Nat} (h1 : 1 ≤ F) (h2 : F ≤ 2046) (hm : m < 4503599627370496) : F * 4503599627370496 < 18446744073709551616 ∧ 4503599627370496 ≤ F * 4503599627370496 + m ∧ F * 4503599627370496 + m < 9218868437227405312 ∧ (F * 4503599627370496 + m) % 4503599627370496 = m ∧ (F * 4503599627370496 + m) / 4503599627370496 = F := by omega
theorem word_plain (x : Nat) : Ieee.double.word false x = x := rfl
theorem wordF {F m : Nat} (h1 : 1 ≤ F) : wordD (4503599627370496 + m) (-1074 + ((F - 1 : Nat) : Int)) = F * 4503599627370496 + m := by
  unfold wordD
  have : (-1074 + ((F - 1 : Nat) : Int) + 1074).toNat = F - 1 := by omega
  rw [this]
  omega
/-- Once a normal number is that number. -/
theorem mul_one_eq {F m : Nat} (h1 : 1 ≤ F) (h2 : F ≤ 2046) (hm : m < 4503599627370496) : floatBits .mul .f64 4607182418800017408 (F * 4503599627370496 + m) = some (F * 4503599627370496 + m) := by
  obtain ⟨f1, f2, f3, f4, f5⟩ := bigF h1 h2 hm
  have hr := read_high (r := F * 4503599627370496 + m) f2 f3
  rw [f4, f5] at hr
  have hmul := mul_of (show Ieee.double.read 4607182418800017408 = .number false 4503599627370496 (-52) from rfl) hr
  have hn := near_of (M := 4503599627370496 + m) (P := -1074 + ((F - 1 : Nat) : Int)) (j := 52) false (by omega) (by omega) (by omega) (by omega)
  rw [show (2 ^ 52 : Nat) = 4503599627370496 from rfl, Nat.mul_comm, show -1074 + ((F - 1 : Nat) : Int) - ((52 : Nat) : Int) = -52 + (-1074 + ((F - 1 : Nat) : Int)) by omega] at hn
  rw [hmul, hn, word_plain, wordF h1]
end Go.Proofs.Ytpdpggndhmnggaa.M
