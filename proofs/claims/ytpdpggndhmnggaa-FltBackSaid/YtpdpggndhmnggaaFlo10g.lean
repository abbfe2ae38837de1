/- flt.To32 of a pattern that is not NaR; the document's examples. -/
import Derived.Test.YtpdpggndhmnggaaF3g
import Derived.Test.YtpdpggndhmnggaaF12g
import Derived.Test.YtpdpggndhmnggaaF13g
import Derived.Test.YtpdpggndhmnggaaF14g
import Derived.Test.YtpdpggndhmnggaaF15g
import Derived.Test.YtpdpggndhmnggaaF17g
import Derived.Test.YtpdpggndhmnggaaF20g
import Derived.Test.YtpdpggndhmnggaaFlo8g
import Derived.Test.YtpdpggndhmnggaaF16g
import Derived.Test.YtpdpggndhmnggaaF21g
import Derived.Test.YtpdpggndhmnggaaCod6g
import Derived.Test.YtpdpggndhmnggaaR02g
namespace Go.Proofs.Ytpdpggndhmnggaa.M
open Go.RowKit Go.Proofs.YtpdpggndhmnggaaW.PrintWords Go.Proofs.YtpdpggndhmnggaaW.PrintLast Go.Proofs.YtpdpggndhmnggaaW.PrintMore Go.Proofs.Ytpdpggndhmnggaa.F
set_option linter.unusedVariables false
set_option linter.unusedSimpArgs false
theorem u32w (x : Int) : IntKind.u32.wrap x = x % 4294967296 := by simp [IntKind.wrap, IntKind.bits, IntKind.signed]
theorem u32_keep (n : Int) (h0 : 0 ≤ n) (h1 : n < 2 ^ 32) : IntKind.u32.wrap n = n := by rw [u32w]; omega
theorem or_sign32 {x : Nat} (h : x < 2147483648) : Go.bits .or .u32 (x : Int) 2147483648 = ((2147483648 + x : Nat) : Int) := by
  have := (bits_nat .u32 32 (by decide) u32_keep x 2147483648 (by omega) (by decide)).2
  rw [show ((2147483648 : Nat) : Int) = 2147483648 from rfl] at this
  have e := Nat.two_pow_add_eq_or_of_lt (i := 31) (b := x) h 1
  rw [this, Nat.or_comm]
  rw [Nat.mul_one] at e
  exact congrArg _ e.symm
/-- How many bits are cut off. -/
def kS (sc : Int) : Nat := if sc < -126 then 40 + (-126 - sc).toNat else 40
/-- The word without sign of 32 bits that a real pattern's number is rounded to. -/
def toW (sc : Int) (fr : Nat) : Nat := if 127 < sc then 2139095040 else if 64 < kS sc then 0 else if -126 ≤ sc then cutN fr 40 + (sc + 126).toNat * 8388608 else cutN fr (kS sc)
def toS (n p : Nat) : Nat := if kindN n p = 1 then (if topB p n = true then 2147483648 else 0) + toW (scI (abN n p) (n - 1)) (mtN (abN n p) (n - 1)) else 0
theorem cut40 {fr : Nat} (h1 : 9223372036854775808 ≤ fr) (h2 : fr < 18446744073709551616) : 8388608 ≤ cutN fr 40 ∧ cutN fr 40 ≤ 16777216 := by
  have h := @cutN_bounds fr 40
  rw [show (2 ^ 40 : Nat) = 1099511627776 from rfl] at h
  omega
theorem cutS {fr k : Nat} (hk : 41 ≤ k) (h2 : fr < 18446744073709551616) : cutN fr k ≤ 8388608 := by
  have h := @cutN_bounds fr k
  have h3 : fr / 2 ^ k ≤ fr / 2 ^ 41 := Nat.div_le_div_left (Nat.pow_le_pow_right (by decide) hk) (by decide)
  rw [show (2 ^ 41 : Nat) = 2199023255552 from rfl] at h3
  omega
theorem toW_lt {sc : Int} {fr : Nat} (h1 : 9223372036854775808 ≤ fr) (h2 : fr < 18446744073709551616) : toW sc fr ≤ 2139095040 := by
  have c := cut40 h1 h2
  unfold toW
  split
  · omega
  · split
    · omega
    · split
      · omega
      · have := cutS (fr := fr) (k := kS sc) (by unfold kS; split <;> omega) h2
        omega
theorem bits32 (k : Nat) (ng : Bool) (x : Nat) (X : Int) (hX : X = (x : Int)) (h : x < 2147483648) : (if ng = true then ((math_Float32frombits.f (Go.bits .or .u32 X 2147483648)).bind fun t => (some (t, (none : Option Int)))) else ((math_Float32frombits.f X).bind fun t => (some (t, none)))) = some ((if ng = true then 2147483648 else 0) + x, none) := by
  subst hX
  unfold math_Float32frombits.f
  cases ng
  · rw [if_neg (by decide), if_neg (by decide), Option.bind_some, Int.toNat_natCast, Nat.zero_add]
  · rw [if_pos rfl, if_pos rfl, or_sign32 h, Option.bind_some, Int.toNat_natCast]
theorem To32_j0 {fr : Nat} {sc : Int} {ng : Bool} (s0 : -1000 ≤ sc) (s1 : sc ≤ 1003) (f0 : 9223372036854775808 ≤ fr) (f1 : fr < 18446744073709551616) :
    Ev (fun k => flt_To32.j0 k ((kS sc : Nat) : Int) 1 ng sc (fr : Int)) ((if ng = true then 2147483648 else 0) + toW sc fr, none) := by
  have hl := toW_lt (sc := sc) f0 f1
  refine Ev.step (f := fun _ => some ((if ng = true then 2147483648 else 0) + toW sc fr, none)) (fun k => ?_) (Ev.now _)
  simp only [flt_To32.j0]
  unfold toW at hl ⊢
  by_cases c1 : 127 < sc
  · rw [if_pos (show sc > 127 from c1), if_pos c1]
    exact bits32 k ng 2139095040 2139095040 rfl (by decide)
  · rw [if_neg (show ¬ sc > 127 from c1), if_neg c1]
    rw [if_neg c1] at hl
    by_cases c2 : 64 < kS sc
    · rw [if_pos (show ((kS sc : Nat) : Int) > 64 by omega), if_pos c2]
      exact bits32 k ng 0 0 rfl (by decide)
    · rw [if_neg (show ¬ ((kS sc : Nat) : Int) > 64 by omega), if_neg c2]
      rw [if_neg c2] at hl
      have hk0 : 40 ≤ kS sc := by unfold kS; split <;> omega
      rw [cut_eq f1 (by omega) (by omega), Option.bind_some]
      by_cases c3 : -126 ≤ sc
      · have ek : kS sc = 40 := by unfold kS; rw [if_neg (by omega)]
        have c := cut40 f0 f1
        rw [if_pos (show sc ≥ -126 from c3), if_pos c3, ek]
        refine bits32 k ng _ _ ?_ (by omega)
        rw [w64 (by omega) (by omega)]
        omega
      · rw [if_neg (show ¬ sc ≥ -126 from c3), if_neg c3]
        rw [if_neg c3] at hl
        refine bits32 k ng _ _ ?_ (by omega)
        omega
theorem To32_ev {n p : Nat} (h : Wd n) (hp : p < 18446744073709551616) (hk2 : kindN n p ≠ 2) : Ev (fun k => flt_To32.f k (n : Int) (p : Int)) (toS n p, none) := by
  have hd := Decode_ev h hp
  unfold flt_To32.f
  refine Ev.bind hd ?_
  rcases kind_cases n p with ⟨hk, _⟩ | ⟨hk, _⟩ | hk
  · have e : meansT n p (none : Option Int) = (0, false, 0, 0, none) := by unfold meansT; rw [if_neg (by rw [hk]; decide), hk]
    have e2 : toS n p = 0 := by unfold toS; rw [if_neg (by rw [hk]; decide)]
    rw [e, e2]
    exact Ev.congr (fun k => (if_pos rfl).trans ((if_neg (show ¬ ((0 : Int) = 2) by decide)).trans (if_pos rfl))) (Ev.now _)
  · exact absurd hk hk2
  · rw [means_real hk]
    unfold toS
    rw [if_pos hk]
    obtain ⟨s0, s1⟩ := @sc_real n p h
    have f0 := mt_ge (abN n p) (n - 1)
    have f1 := mt_word (n := n) (p := p) h
    generalize scI (abN n p) (n - 1) = sc at *
    generalize mtN (abN n p) (n - 1) = fr at *
    generalize topB p n = ng
    have hj := @To32_j0 fr sc ng s0 s1 f0 f1
    refine Ev.congr (fun k => (if_pos rfl).trans ((if_neg (show ¬ ((1 : Int) = 2) by decide)).trans (if_neg (show ¬ ((1 : Int) = 0) by decide)))) ?_
    unfold kS at hj
    by_cases c : sc < -126
    · rw [if_pos c] at hj
      refine Ev.congr (fun k => if_pos c) ?_
      have e : wrap64 (40 + wrap64 (-126 - sc)) = ((40 + (-126 - sc).toNat : Nat) : Int) := by rw [w64 (x := -126 - sc) (by omega) (by omega), w64 (by omega) (by omega)]; omega
      dsimp only
      rw [e]
      exact hj
    · rw [if_neg c] at hj
      exact Ev.congr (fun k => if_neg c) hj
theorem To32_no {n : Int} {p : Int} (h : NoW n) : Ev (fun k => flt_To32.f k n p) (0, some 2) := by
  unfold flt_To32.f
  exact Ev.bind (Decode_no h) (Ev.congr (fun k => if_neg (by simp)) (Ev.now _))
theorem shown_ev : Ev (fun k => vernierlaw17_shown.f k) true := by
  have w8 : Wd 8 := by unfold Wd; decide
  have w64_ : Wd 64 := by unfold Wd; decide
  have h1 := From64_fin (n := 8) (b := 4609434218613702656) w8 (by decide) (by decide)
  have h2 := To64_ev (n := 8) (p := 68) w8 (by decide)
  have h3 := To32_ev (n := 64) (p := 1) w64_ (by decide) (by decide)
  have h4 : Ev (fun k => flt_To32.f k 7 1) (0, some 2) := To32_no (by unfold NoW; decide)
  have e1 : rdF 8 4609434218613702656 = 68 := by decide
  have e2 : toT 8 68 = 4609434218613702656 := by decide
  have e3 : toS 64 1 = 0 := by decide
  rw [e1] at h1; rw [e2] at h2; rw [e3] at h3
  unfold vernierlaw17_shown.f
  refine Ev.bind h1 (Ev.bind h2 (Ev.bind h3 (Ev.bind h4 ?_)))
  have i1 : (FloatKind.f64.format.order 4609434218613702656 4609434218613702656 == some .eq) = true := by decide
  have i2 : (FloatKind.f32.format.order 0 0 == some .eq) = true := by decide
  refine Ev.congr (fun k => (if_pos rfl).trans ((if_pos rfl).trans ((if_pos i1).trans ((if_pos rfl).trans ((if_pos i2).trans ((if_pos rfl).trans (if_neg (by decide)))))))) (Ev.now _)
end Go.Proofs.Ytpdpggndhmnggaa.M
