/- The sixteenth layer: whole numbers rounded, and the whole number of a pattern by a mode: program and reference alike. -/
import Derived.Test.YtlllaoihpkdpmaaDoorF7a
import Derived.Test.YtlllaoihpkdpmaaDoorF11a
import Derived.Test.YtlllaoihpkdpmaaDoorF16a
import Derived.Test.YtlllaoihpkdpmaaDoorRnd4a
namespace Go.Proofs.YtlllaoihpkdpmaaDoor.M
open Go.RowKit Go.Proofs.YtlllaoihpkdpmaaDoorW.PrintWords Go.Proofs.YtlllaoihpkdpmaaDoorW.PrintLast Go.Proofs.YtlllaoihpkdpmaaDoorW.PrintMore Go.Proofs.YtlllaoihpkdpmaaDoor.F
set_option linter.unusedVariables false
set_option linter.unusedSimpArgs false
theorem tw_zero {v : Nat} : tw 0 v = v := by unfold tw; omega
theorem rounded_ev {n : Nat} {neg : Bool} {v : Nat} (h : Wd n) (hv : v < 18446744073709551616) : Ev (fun k => ints_rounded.f k (n : Int) neg 0 (v : Int)) ((rdV n neg 0 v : Int), none) := by
  have hM := Make_ev (neg := neg) (rest := false) (h := 0) (l := v) (e := 0) (by decide) hv (by decide) (by decide) (by intro h; cases h)
  rw [tw_zero] at hM
  unfold ints_rounded.f rdV
  by_cases hz : v = 0
  · rw [if_pos hz] at hM ⊢
    refine Ev.bind hM ?_
    simp only [Option.isNone_none, ↓reduceIte]
    exact Ev.bind (Round_zero h) (Ev.now _)
  · rw [if_neg hz] at hM ⊢
    have hb := blen_le_of (show v < 2 ^ 64 by rw [p64']; exact hv)
    obtain ⟨h1, h2⟩ := nm_bounds (v := v) (by omega) (by omega)
    refine Ev.bind hM ?_
    simp only [Option.isNone_none, ↓reduceIte]
    exact Ev.bind (Round_made (sc := 0 + (blen v : Int) - 1) h (by omega) (by omega) h1 h2) (Ev.now _)
theorem round07_V {n : Nat} {neg : Bool} {v : Nat} (h : Wd n) (hv : v < 340282366920938463463374607431768211456) : Ev (fun k => (vernierref07_Exactly.f k neg (digs v) 0 false).bind fun bt => (vernierref07_Round.f k (n : Int) bt.1 bt.2.1 bt.2.2.1 bt.2.2.2.1 bt.2.2.2.2.1 bt.2.2.2.2.2).bind fun t => some (t, (0 : Int))) ((rdV n neg 0 v : Int), 0) := by
  have hE := Exactly_ev (neg := neg) (rest := false) (e := 0) hv (by decide) (by decide)
  unfold rdV
  by_cases hz : v = 0
  · rw [if_pos hz] at hE ⊢
    exact Ev.bind hE (Ev.bind (Round07_zero h) (Ev.now _))
  · rw [if_neg hz] at hE ⊢
    have hb := blen_le128 hv
    obtain ⟨h1, h2⟩ := nm_bounds (v := v) (by omega) hv
    exact Ev.bind hE (Ev.bind (Round07_made (sc := 0 + (blen v : Int) - 1) h (by omega) (by omega) h1 h2) (Ev.now _))
/-- A signed number's size. -/
def szI (v : Int) : Nat := v.natAbs
/-- A signed number, rounded. -/
def rdI (n : Nat) (v : Int) : Nat := rdV n (decide (v < 0)) 0 (szI v)
theorem FromInt_ev {n : Nat} {v : Int} (h : Wd n) (h0 : -9223372036854775808 ≤ v) (h1 : v < 9223372036854775808) : Ev (fun k => ints_FromInt.f k (n : Int) v) ((rdI n v : Int), none) := by
  unfold ints_FromInt.f rdI
  by_cases hv : v < 0
  · have e : IntKind.u64.wrap (-(IntKind.u64.wrap v)) = (szI v : Int) := by rw [u64w, u64w]; unfold szI; omega
    rw [e, decide_eq_true hv]
    refine Ev.congr (fun k => if_pos hv) ?_
    exact Ev.bind (rounded_ev h (by unfold szI; omega)) (Ev.now _)
  · have e : IntKind.u64.wrap v = (szI v : Int) := by rw [u64w]; unfold szI; omega
    rw [e, decide_eq_false hv]
    refine Ev.congr (fun k => if_neg hv) ?_
    exact Ev.bind (rounded_ev h (by unfold szI; omega)) (Ev.now _)
/-- The whole number below a number's size. -/
def wlN (sc : Int) (fr : Nat) : Nat := if 63 ≤ sc then fr * 2 ^ (sc - 63).toNat else fr / 2 ^ (63 - sc).toNat
/-- What is left of it, and of how much. -/
def lfR (sc : Int) (fr : Nat) : Nat := if 63 ≤ sc then 0 else fr % 2 ^ (63 - sc).toNat
def unR (sc : Int) : Nat := 2 ^ (63 - sc).toNat
/-- Is it the whole number farther from nought? -/
def awB (neg : Bool) (mode : Int) (sc : Int) (fr : Nat) : Bool :=
  if mode = 0 then decide (unR sc < 2 * lfR sc fr ∨ (unR sc = 2 * lfR sc fr ∧ wlN sc fr % 2 = 1))
  else if mode = 1 then decide (0 < lfR sc fr) && neg
  else if mode = 2 then decide (0 < lfR sc fr) && !neg else false
def wM (neg : Bool) (mode : Int) (sc : Int) (fr : Nat) : Nat := if awB neg mode sc fr = true then wlN sc fr + 1 else wlN sc fr
theorem of_end {neg up : Bool} {size : Nat} (hs : size < 18446744073709551615 ∨ (up = false ∧ size < 18446744073709551616)) {r : Bool × Bool × Int} (hr : r = (neg && decide (0 < (if up = true then size + 1 else size)), false, (((if up = true then size + 1 else size) : Nat) : Int))) :
    (if up = true then (if neg = true then (some (decide ((IntKind.u64.wrap ((size : Int) + 1)) > 0), false, IntKind.u64.wrap ((size : Int) + 1))) else (some (false, false, IntKind.u64.wrap ((size : Int) + 1)))) else (if neg = true then (some (decide ((size : Int) > 0), false, (size : Int))) else (some (false, false, (size : Int))))) = some r := by
  rw [hr]
  cases up
  · simp only [Bool.false_eq_true, ↓reduceIte]
    cases neg
    · rfl
    · simp only [↓reduceIte, Bool.true_and]
      congr 2
      rw [Bool.eq_iff_iff, decide_eq_true_eq, decide_eq_true_eq]; omega
  · have e : IntKind.u64.wrap ((size : Int) + 1) = ((size + 1 : Nat) : Int) := by
      rcases hs with h | ⟨h, _⟩
      · rw [u64s (by omega) (by omega)]; rfl
      · cases h
    rw [e]
    simp only [↓reduceIte]
    cases neg
    · rfl
    · simp only [↓reduceIte, Bool.true_and]
      congr 2
      rw [Bool.eq_iff_iff, decide_eq_true_eq, decide_eq_true_eq]; omega
/-- The middle of the program's `of`: a size and a rest in units of 2^-64. -/
theorem of_j0 {mode sc fr0 : Int} {kind : Int} {neg up : Bool} {size rest : Nat} (hs : size < 18446744073709551615 ∨ (rest = 0 ∧ size < 18446744073709551616)) (hm0 : 0 ≤ mode) (hm3 : mode ≤ 3)
    (hup : up = (if mode = 0 then decide (9223372036854775808 < rest ∨ (rest = 9223372036854775808 ∧ size % 2 = 1)) else if mode = 1 then decide (0 < rest) && neg else if mode = 2 then decide (0 < rest) && !neg else false)) :
    Ev (fun k => ints_of.j0 k mode (size : Int) (rest : Int) kind neg sc fr0) (neg && decide (0 < (if up = true then size + 1 else size)), false, (((if up = true then size + 1 else size) : Nat) : Int)) := by
  have hs2 : size < 18446744073709551616 := by omega
  have hone := and_one hs2
  have hsu : size < 18446744073709551615 ∨ (up = false ∧ size < 18446744073709551616) := by
    rcases hs with h | ⟨h, h2⟩
    · exact Or.inl h
    · refine Or.inr ⟨?_, h2⟩
      rw [hup, h]
      split
      · simp
      · split
        · simp
        · split <;> simp
  have hfin := of_end (neg := neg) (up := up) hsu rfl
  refine Ev.step (f := fun _ => some (neg && decide (0 < (if up = true then size + 1 else size)), false, (((if up = true then size + 1 else size) : Nat) : Int))) (fun k => ?_) (Ev.now _)
  rw [← hfin]
  simp only [ints_of.j0]
  rw [hone]
  by_cases m0 : mode = 0
  · rw [if_pos m0] at hup ⊢
    by_cases r1 : 9223372036854775808 < rest
    · have hu : up = true := by rw [hup]; exact decide_eq_true (Or.inl r1)
      rw [if_pos (show (rest : Int) > 9223372036854775808 by omega), hu]; rfl
    · rw [if_neg (show ¬ (rest : Int) > 9223372036854775808 by omega)]
      by_cases r2 : rest = 9223372036854775808
      · rw [if_pos (show (rest : Int) = 9223372036854775808 by omega)]
        by_cases r3 : size % 2 = 1
        · have hu : up = true := by rw [hup]; exact decide_eq_true (Or.inr ⟨r2, r3⟩)
          rw [if_pos (show ((size % 2 : Nat) : Int) = 1 by omega), hu]; rfl
        · have hu : up = false := by rw [hup]; exact decide_eq_false (by rintro (a | ⟨_, a⟩); exact r1 a; exact r3 a)
          rw [if_neg (show ¬ ((size % 2 : Nat) : Int) = 1 by omega), hu]; rfl
      · have hu : up = false := by rw [hup]; exact decide_eq_false (by rintro (a | ⟨a, _⟩); exact r1 a; exact r2 a)
        rw [if_neg (show ¬ (rest : Int) = 9223372036854775808 by omega), hu]; rfl
  · rw [if_neg m0] at hup ⊢
    by_cases m2 : mode = 2
    · rw [if_neg (by omega), if_pos m2] at hup
      rw [if_pos m2]
      by_cases r0 : 0 < rest
      · rw [decide_eq_true r0, Bool.true_and] at hup
        rw [hup]
        cases neg
        · rw [if_neg (by decide), if_pos (show (rest : Int) > 0 by omega)]; rfl
        · rfl
      · have hu : up = false := by rw [hup, decide_eq_false r0, Bool.false_and]
        rw [if_neg (show ¬ (rest : Int) > 0 by omega), hu]
        rfl
    · by_cases m1 : mode = 1
      · rw [if_pos m1] at hup
        rw [if_neg m2, if_pos m1]
        by_cases r0 : 0 < rest
        · rw [decide_eq_true r0, Bool.true_and] at hup
          rw [if_pos (show (rest : Int) > 0 by omega), hup]
          cases neg
          · rfl
          · rfl
        · have hu : up = false := by rw [hup, decide_eq_false r0, Bool.false_and]
          rw [if_neg (show ¬ (rest : Int) > 0 by omega), hu]
          rfl
      · rw [if_neg m1, if_neg m2] at hup
        rw [if_neg m2, if_neg m1, hup]
        rfl
theorem of_far {kind sc mode fr : Int} {neg : Bool} (h : 63 < sc) : Ev (fun k => ints_of.f k kind neg sc fr mode) (neg, true, 0) := by
  unfold ints_of.f
  exact Ev.congr (fun k => if_pos h) (Ev.now _)
theorem of_ev {kind sc mode : Int} {neg : Bool} {fr : Nat} (h0 : -1000 ≤ sc) (h1 : sc ≤ 63) (hf0 : 9223372036854775808 ≤ fr) (hf : fr < 18446744073709551616) (hm0 : 0 ≤ mode) (hm3 : mode ≤ 3) :
    Ev (fun k => ints_of.f k kind neg sc (fr : Int) mode) (neg && decide (0 < wM neg mode sc fr), false, (wM neg mode sc fr : Int)) := by
  obtain ⟨b, hb⟩ : ∃ b : Nat, (b : Int) = 63 - sc := ⟨(63 - sc).toNat, by omega⟩
  have e1 : wrap64 (63 - sc) = (b : Int) := by rw [w64 (by omega) (by omega)]; omega
  have et : (63 - sc).toNat = b := by omega
  unfold ints_of.f
  refine Ev.congr (fun k => if_neg (by omega)) ?_
  rw [e1]
  -- what the rest tells
  have key : ∀ size rest : Nat, size = wlN sc fr → (rest = 0 ↔ lfR sc fr = 0) → (9223372036854775808 < rest ↔ unR sc < 2 * lfR sc fr) → (rest = 9223372036854775808 ↔ unR sc = 2 * lfR sc fr) → (size < 18446744073709551615 ∨ (rest = 0 ∧ size < 18446744073709551616)) →
      Ev (fun k => ints_of.j0 k mode (size : Int) (rest : Int) kind neg sc (fr : Int)) (neg && decide (0 < wM neg mode sc fr), false, (wM neg mode sc fr : Int)) := by
    intro size rest hsz hz hg he hlt
    subst hsz
    have hj := of_j0 (kind := kind) (neg := neg) (sc := sc) (fr0 := (fr : Int)) (up := awB neg mode sc fr) hlt hm0 hm3 (by
      unfold awB
      have d1 : decide (9223372036854775808 < rest ∨ (rest = 9223372036854775808 ∧ wlN sc fr % 2 = 1)) = decide (unR sc < 2 * lfR sc fr ∨ (unR sc = 2 * lfR sc fr ∧ wlN sc fr % 2 = 1)) := by
        rw [Bool.eq_iff_iff, decide_eq_true_eq, decide_eq_true_eq, hg, he]
      have d2 : decide (0 < rest) = decide (0 < lfR sc fr) := by
        rw [Bool.eq_iff_iff, decide_eq_true_eq, decide_eq_true_eq]; omega
      rw [d1, d2])
    unfold wM
    exact hj
  by_cases c0 : b = 0
  · refine Ev.congr (fun k => if_pos (by omega)) ?_
    have h63 : (63 : Int) ≤ sc := by omega
    refine key fr 0 ?_ ?_ ?_ ?_ (Or.inr ⟨rfl, hf⟩)
    · unfold wlN; rw [if_pos h63, show (sc - 63).toNat = 0 by omega, Nat.pow_zero, Nat.mul_one]
    · unfold lfR; rw [if_pos h63]
    · unfold lfR unR; rw [if_pos h63, et, c0, Nat.pow_zero]; omega
    · unfold lfR unR; rw [if_pos h63, et, c0, Nat.pow_zero]; omega
  · refine Ev.congr (fun k => if_neg (by omega)) ?_
    have h63 : ¬ (63 : Int) ≤ sc := by omega
    have eW : wlN sc fr = fr / 2 ^ b := by unfold wlN; rw [if_neg h63, et]
    have eL : lfR sc fr = fr % 2 ^ b := by unfold lfR; rw [if_neg h63, et]
    have eU : unR sc = 2 ^ b := by unfold unR; rw [et]
    have pb : 0 < 2 ^ b := Nat.pow_pos (by decide)
    by_cases c1 : b < 64
    · refine Ev.congr (fun k => if_pos (by omega)) (Ev.congr (fun k => if_pos (by omega)) ?_)
      have e2 : wrap64 (64 - (b : Int)) = ((64 - b : Nat) : Int) := by rw [w64 (by omega) (by omega)]; omega
      rw [e2]
      refine Ev.congr (fun k => if_pos (by omega)) ?_
      rw [shr_nat hf, shl_nat]
      have pc : 0 < 2 ^ (64 - b) := Nat.pow_pos (by decide)
      have epq : 2 ^ b * 2 ^ (64 - b) = 18446744073709551616 := by rw [← Nat.pow_add, show b + (64 - b) = 64 by omega]
      have er : fr * 2 ^ (64 - b) % 18446744073709551616 = fr % 2 ^ b * 2 ^ (64 - b) := by rw [← epq, Nat.mul_mod_mul_right]
      rw [er]
      have eq1 : 2 ^ b = 2 * 2 ^ (b - 1) := by rw [← Nat.pow_succ']; congr 1; omega
      have ehalf : 2 ^ (b - 1) * 2 ^ (64 - b) = 9223372036854775808 := by rw [← Nat.pow_add, show b - 1 + (64 - b) = 63 by omega]
      have hsize : fr / 2 ^ b < 9223372036854775808 := by
        rw [Nat.div_lt_iff_lt_mul pb]
        have : 2 ≤ 2 ^ b := by rw [eq1]; have : 0 < 2 ^ (b - 1) := Nat.pow_pos (by decide); omega
        have := Nat.mul_le_mul_left 9223372036854775808 this
        omega
      refine key _ _ eW.symm ?_ ?_ ?_ (Or.inl (by omega))
      · rw [eL]; constructor
        · intro h; rcases Nat.mul_eq_zero.mp h with h | h
          · exact h
          · omega
        · intro h; rw [h, Nat.zero_mul]
      · rw [eL, eU, eq1, ← ehalf, Nat.mul_lt_mul_right pc]; rw [← eq1]; omega
      · rw [eL, eU, ← ehalf]
        constructor
        · intro h; have := Nat.eq_of_mul_eq_mul_right pc h; omega
        · intro h; congr 1; omega
    · refine Ev.congr (fun k => if_neg (by omega)) ?_
      have hz : fr / 2 ^ b = 0 := by
        refine Nat.div_eq_of_lt (Nat.lt_of_lt_of_le hf ?_)
        rw [← p64']; exact Nat.pow_le_pow_right (by decide) (by omega)
      have hmod : fr % 2 ^ b = fr := Nat.mod_eq_of_lt (Nat.lt_of_lt_of_le hf (by rw [← p64']; exact Nat.pow_le_pow_right (by decide) (by omega)))
      by_cases c2 : b = 64
      · refine Ev.congr (fun k => if_pos (by omega)) ?_
        have eP : 2 ^ b = 18446744073709551616 := by rw [c2]
        refine key 0 fr (by rw [eW, hz]) ?_ ?_ ?_ (Or.inl (by decide))
        · rw [eL, hmod]
        · rw [eL, hmod, eU, eP]; omega
        · rw [eL, hmod, eU, eP]; omega
      · refine Ev.congr (fun k => if_neg (by omega)) ?_
        have eP : 36893488147419103232 ≤ 2 ^ b := by
          rw [show (36893488147419103232 : Nat) = 2 ^ 65 by decide]; exact Nat.pow_le_pow_right (by decide) (by omega)
        refine key 0 1 (by rw [eW, hz]) ?_ ?_ ?_ (Or.inl (by decide))
        · rw [eL, hmod]; omega
        · rw [eL, hmod, eU]; omega
        · rw [eL, hmod, eU]; omega
end Go.Proofs.YtlllaoihpkdpmaaDoor.M
