/- flt.From64: the number that a word stands for, rounded. -/
import Derived.Test.YtpdpggndhmnggaaF3g
import Derived.Test.YtpdpggndhmnggaaF7g
import Derived.Test.YtpdpggndhmnggaaF8g
import Derived.Test.YtpdpggndhmnggaaF12g
import Derived.Test.YtpdpggndhmnggaaFlo3g
import Derived.Test.YtpdpggndhmnggaaRnd4g
namespace Go.Proofs.Ytpdpggndhmnggaa.M
open Go.RowKit Go.Proofs.YtpdpggndhmnggaaW.PrintWords Go.Proofs.YtpdpggndhmnggaaW.PrintLast Go.Proofs.YtpdpggndhmnggaaW.PrintMore Go.Proofs.Ytpdpggndhmnggaa.F
set_option linter.unusedVariables false
set_option linter.unusedSimpArgs false
theorem blen_shl {v k : Nat} (hv : 0 < v) : blen (v * 2 ^ k) = blen v + k := blen_mul hv
theorem nmW_shl {v k : Nat} (hv : 0 < v) (h : blen v + k ≤ 128) : nmW (v * 2 ^ k) = nmW v := by
  unfold nmW
  rw [blen_shl hv, Nat.mul_assoc, ← Nat.pow_add]
  congr 2; omega
/-- The same number with noughts behind it is rounded to the same. -/
theorem rdV_shl {n : Nat} {neg : Bool} {e : Int} {v k : Nat} (h : blen v + k ≤ 128) : rdV n neg (e - k) (v * 2 ^ k) = rdV n neg e v := by
  rcases Nat.eq_zero_or_pos v with h0 | h0
  · subst h0; rw [Nat.zero_mul]; rfl
  · have hp : 0 < v * 2 ^ k := Nat.mul_pos h0 (Nat.pow_pos (by decide))
    unfold rdV
    rw [if_neg (by omega), if_neg (by omega), nmW_shl h0 h, blen_shl h0]
    congr 1
    omega
theorem ord_neg {b : Nat} (hb : b < 18446744073709551616) (hf : b % 9223372036854775808 < 9218868437227405312) : (FloatKind.f64.format.order b 0 == some .lt) = (b / 9223372036854775808 == 1 && decide (0 < b % 9223372036854775808)) := by
  show ((Ieee.double.read b).order (Ieee.double.read 0) == some .lt) = _
  rw [show Ieee.double.read 0 = .number false 0 (-1074) from rfl, d_read]
  obtain ⟨s, hs⟩ : ∃ s : Nat, s = b / 9223372036854775808 := ⟨_, rfl⟩
  have hs1 : s < 2 := by omega
  rw [← hs, Nat.mod_eq_of_lt hs1]
  generalize b % 9223372036854775808 = r at *
  have hk : ∀ (m : Nat) (P : Int), 0 < m → (some (compare (Ieee.signed (s == 1) m (P - min P (-1074)).toNat) (Ieee.signed false 0 (-1074 - min P (-1074)).toNat)) == some Ordering.lt) = (s == 1) := by
    intro m P hm
    have hz : Ieee.signed false 0 (-1074 - min P (-1074)).toNat = 0 := by show ((0 <<< _ : Nat) : Int) = 0; rw [Nat.zero_shiftLeft]; rfl
    have hp : 0 < m <<< (P - min P (-1074)).toNat := by rw [Nat.shiftLeft_eq]; exact Nat.mul_pos hm (Nat.pow_pos (by decide))
    rw [hz]
    rcases (show s = 0 ∨ s = 1 by omega) with h | h
    · subst h
      have : (0 : Int) < Ieee.signed false m (P - min P (-1074)).toNat := by show (0 : Int) < ((m <<< _ : Nat) : Int); omega
      rw [show ((0 : Nat) == 1) = false from rfl, icmp_gt this]; rfl
    · subst h
      have : Ieee.signed true m (P - min P (-1074)).toNat < 0 := by show -((m <<< _ : Nat) : Int) < 0; omega
      rw [show ((1 : Nat) == 1) = true from rfl, icmp_lt this]; rfl
  by_cases c1 : r < 4503599627370496
  · rw [if_pos c1]
    by_cases c0 : r = 0
    · subst c0
      rw [show decide (0 < 0) = false from rfl, Bool.and_false]
      rcases (show s = 0 ∨ s = 1 by omega) with h | h <;> subst h <;> rfl
    · rw [decide_eq_true (show 0 < r by omega), Bool.and_true]; exact hk _ _ (by omega)
  · rw [if_neg c1, if_pos hf, decide_eq_true (show 0 < r by omega), Bool.and_true]
    exact hk _ _ (by omega)
theorem From64_nar {n b : Nat} (hn : Wd n) (hb : b < 18446744073709551616) (h : 9218868437227405312 ≤ b % 9223372036854775808) : Ev (fun k => flt_From64.f k (n : Int) b) (((2 ^ (n - 1) : Nat) : Int), none) := by
  have hj : Ev (fun k => flt_From64.j0 k (n : Int) b false 2 false 0 0 0 false) (((2 ^ (n - 1) : Nat) : Int), none) := by
    refine Ev.step (f := fun k => (round_Round.f k (n : Int) 2 false 0 0 0 false).bind fun bt => some (bt.1, bt.2)) (fun k => ?_) (Ev.bind (Round_nar hn) (Ev.now _))
    simp only [flt_From64.j0]
    rw [if_neg (by decide)]
  unfold flt_From64.f
  refine Ev.bindp (IsNaN_eq b) ?_
  by_cases c : 9218868437227405312 < b % 9223372036854775808
  · rw [decide_eq_true c]
    exact Ev.congr (fun k => if_pos rfl) hj
  · rw [decide_eq_false c]
    refine Ev.congr (fun k => if_neg (by decide)) ?_
    refine Ev.bindp (IsInf_eq hb) ?_
    rw [decide_eq_true (by omega)]
    exact hj
theorem Round_make {n : Nat} {neg : Bool} {M : Nat} {P : Int} (hn : Wd n) (h0 : 0 < M) (h1 : M < 18446744073709551616) (p0 : -1000000 ≤ P) (p1 : P ≤ 1000000) :
    Ev (fun k => (round_Make.f k neg 0 (M : Int) P false).bind fun bt239 => if bt239.2.2.2.2.2.2.isNone = true then (round_Round.f k (n : Int) bt239.1 bt239.2.1 bt239.2.2.1 bt239.2.2.2.1 bt239.2.2.2.2.1 bt239.2.2.2.2.2.1).bind fun bt248 => some (bt248.1, bt248.2) else some (0, some (bt239.2.2.2.2.2.2.getD 0)))
      (((rdV n neg P M : Nat) : Int), none) := by
  have hm := Make_ev (neg := neg) (rest := false) (h := 0) (l := M) (e := P) (by decide) h1 (by omega) (by omega) (fun h => by cases h)
  have ht : tw 0 M = M := by unfold tw; omega
  rw [ht, if_neg (by omega)] at hm
  have hnm := nm_bounds h0 (show M < 340282366920938463463374607431768211456 by omega)
  have hbl := blen_le128 (show M < 340282366920938463463374607431768211456 by omega)
  refine Ev.bind hm ?_
  refine Ev.congr (fun k => if_pos rfl) ?_
  have hr := Round_made (neg := neg) (rest := false) (sc := P + (blen M : Int) - 1) hn (by omega) (by omega) hnm.1 hnm.2
  have e : rdV n neg P M = rdN n neg (P + (blen M : Int) - 1) (nmW M) false := by unfold rdV; rw [if_neg (by omega)]
  rw [e]
  exact Ev.bind hr (Ev.now _)
/-- What a float is rounded to: below infinity. -/
def rdF (n b : Nat) : Nat := if b % 9223372036854775808 = 0 then 0 else rdV n (b / 9223372036854775808 == 1) (pD (b % 9223372036854775808)) (mD (b % 9223372036854775808))
theorem Ldexp_eqX {E F m X Y : Nat} {e : Int} (hE0 : 0 < E) (hE : E < 2047) (hm : m < 4503599627370496) (h0 : 1 ≤ F) (h1 : F ≤ 2046) (hF : (E : Int) + e = (F : Int)) (hX : X = E * 4503599627370496 + m) (hY : Y = F * 4503599627370496 + m) :
    math_Ldexp.f X e = some Y := by
  rw [hX, hY]
  exact Ldexp_eq hE0 hE hm h0 h1 hF
theorem Ldexp_frac {M : Nat} (h1 : 4503599627370496 ≤ M) (h2 : M < 9007199254740992) : math_Ldexp.f (4602678819172646912 + (M - 4503599627370496)) 53 = some (4836865999795912704 + M) := by
  exact Ldexp_eqX (E := 1022) (F := 1075) (m := M - 4503599627370496) (e := 53) (by decide) (by decide) (by omega) (by decide) (by decide) (by decide) (by omega) (by omega)
theorem From64_fin {n b : Nat} (hn : Wd n) (hb : b < 18446744073709551616) (h : b % 9223372036854775808 < 9218868437227405312) : Ev (fun k => flt_From64.f k (n : Int) b) (((rdF n b : Nat) : Int), none) := by
  have hN : math_IsNaN.f b = some false := by rw [IsNaN_eq, decide_eq_false (by omega)]
  have hI : math_IsInf.f b 0 = some false := by rw [IsInf_eq hb, decide_eq_false (by omega)]
  unfold flt_From64.f
  refine Ev.bindp hN (Ev.congr (fun k => if_neg (by decide)) (Ev.bindp hI ?_))
  refine Ev.step (fun k => by simp only [flt_From64.j0]; rw [if_pos (by rfl)]) (Ev.bindp (Abs_eq hb) ?_)
  have hneg := ord_neg hb h
  unfold rdF
  generalize hr : b % 9223372036854775808 = r at *
  rw [hneg]
  by_cases c : r = 0
  · subst c
    have f0 : Ev (fun k => math_Frexp.f k 0) (0, 0) := by
      unfold math_Frexp.f math_frexp.f
      refine Ev.bind (a := (0, 0)) ?_ (Ev.now _)
      exact Ev.congr (fun k => if_pos (by rw [ord_zero (by omega)]; rfl)) (Ev.now _)
    have l0 : math_Ldexp.f 0 53 = some 0 := by
      unfold math_Ldexp.f
      refine obind (a := 0) ?_ rfl
      unfold math_ldexp.f
      exact if_pos (by rw [ord_zero (by omega)]; rfl)
    have i0 : floatToIntVal .f64 0 .u64 = some 0 := by decide
    refine Ev.bind f0 (Ev.bindp l0 ?_)
    rw [i0]
    refine Ev.congr (fun k => if_pos rfl) ?_
    rw [if_pos rfl, show wrap64 (0 - 53) = -53 from w64 (by decide) (by decide)]
    have hm := Make_ev (neg := (b / 9223372036854775808 == 1 && decide (0 < 0))) (rest := false) (h := 0) (l := 0) (e := -53) (by decide) (by decide) (by decide) (by decide) (fun h => by cases h)
    rw [if_pos (by rfl)] at hm
    refine Ev.bind hm (Ev.congr (fun k => if_pos rfl) ?_)
    exact Ev.bind (Round_zero hn) (Ev.now _)
  · obtain ⟨b1, b2, b3, b4⟩ := mD_bounds (r := r) (by omega) h
    refine Ev.bind (Frexp_ev (by omega) h) (Ev.bindp (Ldexp_frac b1 b2) ?_)
    rw [toInt_eq b1 b2]
    refine Ev.congr (fun k => if_pos rfl) ?_
    rw [if_neg c, decide_eq_true (show 0 < r by omega), Bool.and_true]
    have hw : wrap64 (pD r + 53 - 53) = pD r := by rw [show pD r + 53 - 53 = pD r by omega]; exact w64 (by omega) (by omega)
    have := Round_make (n := n) (neg := (b / 9223372036854775808 == 1)) (M := mD r) (P := pD r) hn (by omega) (by omega) (by omega) (by omega)
    simp only [hw, Option.getD_some]
    exact this
end Go.Proofs.Ytpdpggndhmnggaa.M
