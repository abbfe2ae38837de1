/- What the program's first layer computes, and what its reference does: runs, fields, words put, signs, texts. -/
import Derived.Test.YtjbcfiigafbobaaF9
import Derived.Test.YtjbcfiigafbobaaF11
import Derived.Test.YtjbcfiigafbobaaF12
import Derived.Test.YtjbcfiigafbobaaTxt
namespace Go.Proofs.Ytjbcfiigafbobaa.M
open Go.RowKit Go.Proofs.YtjbcfiigafbobaaW.PrintWords Go.Proofs.YtjbcfiigafbobaaW.PrintLast Go.Proofs.YtjbcfiigafbobaaW.PrintMore Go.Proofs.Ytjbcfiigafbobaa.F
set_option linter.unusedVariables false
set_option linter.unusedSimpArgs false

theorem p64' : (2 : Nat) ^ 64 = 18446744073709551616 := by decide
theorem pow_le64 {n : Nat} (h : n ≤ 64) : 2 ^ n ≤ 18446744073709551616 := by rw [← p64']; exact Nat.pow_le_pow_right (by decide) h
theorem ones_eq {n : Nat} (h : n ≤ 64) : lead_ones.f (n : Int) = some ((2 ^ n - 1 : Nat) : Int) := by
  unfold lead_ones.f
  by_cases h1 : n = 64
  · subst h1; rfl
  · have hp := pow_le64 h
    have hp0 : 0 < 2 ^ n := Nat.pow_pos (by decide)
    have hlt : 2 ^ n < 18446744073709551616 := by rw [← p64']; exact Nat.pow_lt_pow_right (by decide) (by omega)
    have e := shl_nat 1 n
    rw [Nat.one_mul, Nat.mod_eq_of_lt hlt] at e
    rw [if_neg (by omega), if_pos (by omega), show (1 : Int) = ((1 : Nat) : Int) from rfl, e, u64s (by omega) (by omega)]
    congr 1; omega
theorem Mask_bad {n : Int} (h : n < 0 ∨ 64 < n) : lead_Mask.f n = some (0, some 1) := by
  unfold lead_Mask.f
  by_cases h1 : n < 0
  · rw [if_pos h1]
  · rw [if_neg h1, if_pos (by omega)]
theorem Mask_eq {n : Nat} (h : n ≤ 64) : lead_Mask.f (n : Int) = some (((2 ^ n - 1 : Nat) : Int), none) := by
  unfold lead_Mask.f
  rw [if_neg (by omega), if_neg (by omega), ones_eq h]; rfl
theorem Mask01_l0 {n : Nat} (h : n ≤ 64) : ∀ d i : Nat, n - i ≤ d → i ≤ n → Ev (fun k => vernierref01_Mask.l0 k (n : Int) ((2 ^ i - 1 : Nat) : Int) (i : Int)) (((2 ^ n - 1 : Nat) : Int), 0) := by
  intro d
  induction d with
  | zero =>
    intro i hd hi
    obtain rfl : i = n := by omega
    refine Ev.step (f := fun _ => some (((2 ^ i - 1 : Nat) : Int), 0)) (fun k => ?_) (Ev.now _)
    simp only [vernierref01_Mask.l0]; rw [if_neg (by omega)]
  | succ d ih =>
    intro i hd hi
    by_cases hgo : i < n
    · refine Ev.step (f := fun k => vernierref01_Mask.l0 k (n : Int) ((2 ^ (i + 1) - 1 : Nat) : Int) ((i + 1 : Nat) : Int)) (fun k => ?_) (ih (i + 1) (by omega) (by omega))
      have hp := pow_le64 (show i + 1 ≤ 64 by omega)
      have hp0 : 0 < 2 ^ i := Nat.pow_pos (by decide)
      simp only [vernierref01_Mask.l0]
      rw [if_pos (by omega), w64 (by omega) (by omega)]
      rw [Nat.pow_succ] at hp ⊢
      generalize 2 ^ i = p at *
      rw [u64s (x := 2 * ((p - 1 : Nat) : Int)) (by omega) (by omega), u64s (by omega) (by omega)]
      congr 1
      omega
    · exact ih i (by omega) hi
theorem Mask01_ev {n : Nat} (h : n ≤ 64) : Ev (fun k => vernierref01_Mask.f k (n : Int)) (((2 ^ n - 1 : Nat) : Int), 0) := by
  unfold vernierref01_Mask.f
  refine Ev.congr (f := fun k => vernierref01_Mask.j0 k (n : Int) false) (fun k => ?_) (Ev.step (f := fun k => vernierref01_Mask.l0 k (n : Int) 0 0) (fun k => ?_) ?_)
  · rw [if_neg (by omega)]
    have : decide ((n : Int) > 64) = false := decide_eq_false (by omega)
    rw [this]
  · simp [vernierref01_Mask.j0]
  · exact Mask01_l0 h n 0 (by omega) (by omega)
theorem Mask01_bad {n : Int} (h : n < 0 ∨ 64 < n) : Ev (fun k => vernierref01_Mask.f k n) (0, 1) := by
  unfold vernierref01_Mask.f
  refine Ev.congr (f := fun k => vernierref01_Mask.j0 k n true) (fun k => ?_) (Ev.step (f := fun k => some (0, 1)) (fun k => ?_) (Ev.now _))
  · by_cases h1 : n < 0
    · rw [if_pos h1]
    · rw [if_neg h1]
      have : decide (n > 64) = true := decide_eq_true (by omega)
      rw [this]
  · simp [vernierref01_Mask.j0]
/-- May there be a field? -/
def fits (a n : Int) : Bool := decide (0 ≤ a ∧ a ≤ 64 ∧ 0 ≤ n ∧ n ≤ 64 - a)
theorem field_eq {a n : Int} : lead_field.f a n = some (fits a n) := by
  unfold lead_field.f fits
  by_cases h1 : a ≥ 0
  · rw [if_pos h1]
    by_cases h2 : a ≤ 64
    · rw [if_pos h2]
      by_cases h3 : n ≥ 0
      · rw [if_pos h3, w64 (by omega) (by omega)]
        congr 1
        rw [Bool.eq_iff_iff, decide_eq_true_eq, decide_eq_true_eq]
        omega
      · rw [if_neg h3, decide_eq_false (by omega)]
    · rw [if_neg h2, decide_eq_false (by omega)]
  · rw [if_neg h1, decide_eq_false (by omega)]
theorem field01_eq {a n : Int} : vernierref01_field.f a n = some (fits a n) := field_eq
theorem fits_nat {a n : Int} (h : fits a n = true) : ∃ b m : Nat, a = (b : Int) ∧ n = (m : Int) ∧ b + m ≤ 64 := by
  unfold fits at h
  rw [decide_eq_true_eq] at h
  exact ⟨a.toNat, n.toNat, by omega, by omega, by omega⟩
theorem Field_bad {x a n : Int} (h : fits a n = false) : lead_Field.f x a n = some (0, some 1) := by
  unfold lead_Field.f; rw [field_eq, h]; rfl
theorem Field_eq {x a n : Nat} (hx : x < 18446744073709551616) (h : a + n ≤ 64) : lead_Field.f (x : Int) (a : Int) (n : Int) = some (((x / 2 ^ a % 2 ^ n : Nat) : Int), none) := by
  have hf : fits (a : Int) (n : Int) = true := by unfold fits; rw [decide_eq_true_eq]; omega
  have hd : x / 2 ^ a ≤ x := Nat.div_le_self _ _
  unfold lead_Field.f
  rw [field_eq, hf]
  simp only [Option.bind_some, ↓reduceIte]
  rw [if_pos (by omega), ones_eq (by omega), shr_nat hx]
  simp only [Option.bind_some]
  rw [and_mask (Nat.lt_of_le_of_lt hd hx) (by omega)]
theorem Field01_bad {x a n : Int} (h : fits a n = false) : Ev (fun k => vernierref01_Field.f k x a n) (0, 1) := by
  unfold vernierref01_Field.f; rw [field01_eq, h]; exact Ev.now _
theorem Field01_ev {x a n : Nat} (hx : x < 18446744073709551616) (h : a + n ≤ 64) : Ev (fun k => vernierref01_Field.f k (x : Int) (a : Int) (n : Int)) (((x / 2 ^ a % 2 ^ n : Nat) : Int), 0) := by
  have hf : fits (a : Int) (n : Int) = true := by unfold fits; rw [decide_eq_true_eq]; omega
  unfold vernierref01_Field.f
  rw [field01_eq, hf]
  simp only [Option.bind_some, ↓reduceIte]
  refine Ev.bind (Text_ev (n := 64) hx (by decide)) ?_
  have e1 : wrap64 (64 - (a : Int)) = ((64 - a : Nat) : Int) := by rw [w64 (by omega) (by omega)]; omega
  have e2 : wrap64 (((64 - a : Nat) : Int) - (n : Int)) = ((64 - a - n : Nat) : Int) := by rw [w64 (by omega) (by omega)]; omega
  refine Ev.congr (f := fun k => (vernierref01_Number.f k (txt (x / 2 ^ a) n)).bind fun t => some (t, 0)) (fun k => ?_) ?_
  · rw [e1, e2, txt_size, if_pos (by omega), if_pos (by omega), if_pos (by omega), Int.toNat_natCast, Int.toNat_natCast, txt_extract _ _ _ _ (by omega) (by omega), show 64 - (64 - a) = a by omega, show 64 - a - (64 - a - n) = n by omega]
  · exact Ev.bind (Number_ev' (by omega)) (Ev.now _)
theorem Put_bad {x a n v : Int} (h : fits a n = false) : lead_Put.f x a n v = some (0, some 1) := by
  unfold lead_Put.f; rw [field_eq, h]; rfl
theorem Put01_bad {x a n v : Int} (h : fits a n = false) : Ev (fun k => vernierref01_Put.f k x a n v) (0, 1) := by
  unfold vernierref01_Put.f; rw [field01_eq, h]; exact Ev.now _
/-- x with the lowest n bits of v from the place a on. -/
def putN (x a n v : Nat) : Nat := x / 2 ^ (a + n) * 2 ^ (a + n) + v % 2 ^ n * 2 ^ a + x % 2 ^ a
theorem mask_place {x a n : Nat} (hx : x < 18446744073709551616) (h : a + n ≤ 64) : x &&& ((2 ^ n - 1) * 2 ^ a) = x / 2 ^ a % 2 ^ n * 2 ^ a := by
  apply Nat.eq_of_testBit_eq
  intro i
  rw [Nat.testBit_and, Nat.testBit_mul_two_pow, Nat.testBit_mul_two_pow, Nat.testBit_two_pow_sub_one, Nat.testBit_mod_two_pow, Nat.testBit_div_two_pow]
  by_cases h1 : a ≤ i
  · simp only [h1, decide_true, Bool.true_and]
    rw [show i - a + a = i by omega, Bool.and_comm]
  · simp [h1]
theorem Put_eq {x a n v : Nat} (hx : x < 18446744073709551616) (hv : v < 18446744073709551616) (h : a + n ≤ 64) : lead_Put.f (x : Int) (a : Int) (n : Int) (v : Int) = some (((putN x a n v : Nat) : Int), none) := by
  have hf : fits (a : Int) (n : Int) = true := by unfold fits; rw [decide_eq_true_eq]; omega
  have pa : 0 < 2 ^ a := Nat.pow_pos (by decide)
  have pn : 0 < 2 ^ n := Nat.pow_pos (by decide)
  have pan : 2 ^ a * 2 ^ n ≤ 18446744073709551616 := by rw [← Nat.pow_add]; exact pow_le64 h
  have pn' := pow_le64 (show n ≤ 64 by omega)
  have em : (2 ^ n - 1) * 2 ^ a < 18446744073709551616 := by
    have : (2 ^ n - 1) * 2 ^ a + 2 ^ a = 2 ^ a * 2 ^ n := by rw [Nat.sub_mul, Nat.one_mul, Nat.mul_comm (2 ^ n)]; have := Nat.le_mul_of_pos_right (2 ^ a) pn; omega
    omega
  unfold lead_Put.f
  rw [field_eq, hf]
  simp only [Option.bind_some, ↓reduceIte]
  rw [ones_eq (by omega)]
  simp only [Option.bind_some]
  rw [if_pos (by omega), shl_nat, shl_nat, Nat.mod_eq_of_lt em, andNot_nat hx em, and_nat (Nat.mod_lt _ (by decide)) em, mask_place hx h, mask_place (Nat.mod_lt _ (by decide)) h]
  have ev : v * 2 ^ a % 18446744073709551616 / 2 ^ a % 2 ^ n = v % 2 ^ n := by
    have e64 : 18446744073709551616 = 2 ^ a * 2 ^ (64 - a) := by rw [← Nat.pow_add, show a + (64 - a) = 64 by omega, p64']
    rw [e64, Nat.mul_comm v, Nat.mul_mod_mul_left, Nat.mul_div_cancel_left _ pa]
    rw [show 64 - a = n + (64 - a - n) by omega, Nat.pow_add, Nat.mod_mul_right_mod]
  rw [ev]
  have d1 := Nat.div_add_mod x (2 ^ a)
  have d2 := Nat.div_add_mod (x / 2 ^ a) (2 ^ n)
  have d3 : x / 2 ^ a / 2 ^ n = x / 2 ^ (a + n) := by rw [Nat.div_div_eq_div_mul, ← Nat.pow_add]
  rw [d3] at d2
  have hm : x / 2 ^ a % 2 ^ n * 2 ^ a ≤ x := by
    have h2 : x / 2 ^ a * 2 ^ a ≤ x := Nat.div_mul_le_self _ _
    exact Nat.le_trans (Nat.mul_le_mul_right _ (Nat.mod_le _ _)) h2
  have hsub : x - x / 2 ^ a % 2 ^ n * 2 ^ a = x / 2 ^ (a + n) * 2 ^ (a + n) + x % 2 ^ a := by
    have : x = 2 ^ a * (2 ^ n * (x / 2 ^ (a + n)) + x / 2 ^ a % 2 ^ n) + x % 2 ^ a := by rw [d2, d1]
    have e : 2 ^ a * (2 ^ n * (x / 2 ^ (a + n)) + x / 2 ^ a % 2 ^ n) = x / 2 ^ (a + n) * 2 ^ (a + n) + x / 2 ^ a % 2 ^ n * 2 ^ a := by rw [Nat.pow_add]; grind
    rw [e] at this
    omega
  rw [hsub]
  have hlt : x % 2 ^ a < 2 ^ a := Nat.mod_lt _ pa
  have hvn : v % 2 ^ n < 2 ^ n := Nat.mod_lt _ pn
  have hvl : v % 2 ^ n * 2 ^ a < 18446744073709551616 := by
    have : v % 2 ^ n * 2 ^ a + 2 ^ a ≤ 2 ^ a * 2 ^ n := by rw [Nat.mul_comm (2 ^ a), ← Nat.succ_mul]; exact Nat.mul_le_mul_right _ hvn
    omega
  have hol : x / 2 ^ (a + n) * 2 ^ (a + n) + x % 2 ^ a < 18446744073709551616 := by rw [← hsub]; omega
  rw [or_nat hol hvl]
  congr 3
  unfold putN
  have hb : x % 2 ^ a + v % 2 ^ n * 2 ^ a < 2 ^ (a + n) := by
    have : v % 2 ^ n * 2 ^ a + 2 ^ a ≤ 2 ^ a * 2 ^ n := by rw [Nat.mul_comm (2 ^ a), ← Nat.succ_mul]; exact Nat.mul_le_mul_right _ hvn
    rw [Nat.pow_add]; omega
  have c1 : x / 2 ^ (a + n) * 2 ^ (a + n) + v % 2 ^ n * 2 ^ a + x % 2 ^ a = 2 ^ (a + n) * (x / 2 ^ (a + n)) + (2 ^ a * (v % 2 ^ n) + x % 2 ^ a) := by grind
  have c2 : x / 2 ^ (a + n) * 2 ^ (a + n) + x % 2 ^ a = 2 ^ (a + n) * (x / 2 ^ (a + n)) + x % 2 ^ a := by grind
  have hb2 : x % 2 ^ a < 2 ^ (a + n) := by omega
  have hb3 : 2 ^ a * (v % 2 ^ n) + x % 2 ^ a < 2 ^ (a + n) := by rw [Nat.mul_comm]; omega
  rw [c1, c2, Nat.two_pow_add_eq_or_of_lt hb3, Nat.two_pow_add_eq_or_of_lt hb2, Nat.two_pow_add_eq_or_of_lt hlt, Nat.mul_comm (v % 2 ^ n), Nat.or_assoc, Nat.or_comm (x % 2 ^ a)]
theorem Put01_ev {x a n v : Nat} (hx : x < 18446744073709551616) (hv : v < 18446744073709551616) (h : a + n ≤ 64) : Ev (fun k => vernierref01_Put.f k (x : Int) (a : Int) (n : Int) (v : Int)) (((putN x a n v : Nat) : Int), 0) := by
  have hf : fits (a : Int) (n : Int) = true := by unfold fits; rw [decide_eq_true_eq]; omega
  unfold vernierref01_Put.f
  rw [field01_eq, hf]
  simp only [Option.bind_some, ↓reduceIte]
  refine Ev.bind (Text_ev (n := 64) hx (by decide)) ?_
  have e1 : wrap64 (64 - (a : Int)) = ((64 - a : Nat) : Int) := by rw [w64 (by omega) (by omega)]; omega
  have e2 : wrap64 (((64 - a : Nat) : Int) - (n : Int)) = ((64 - a - n : Nat) : Int) := by rw [w64 (by omega) (by omega)]; omega
  have s1 : (txt x 64).extract 0 (64 - a - n) = txt (x / 2 ^ (a + n)) (64 - a - n) := by
    rw [txt_extract _ _ _ _ (by omega) (by omega), show 64 - (64 - a - n) = a + n by omega, Nat.sub_zero]
  have s2 : (txt x 64).extract (64 - a) 64 = txt x a := by
    rw [txt_extract _ _ _ _ (by omega) (by omega), Nat.sub_self, Nat.pow_zero, Nat.div_one, show 64 - (64 - a) = a by omega]
  refine Ev.congr (f := fun k => (vernierref01_Text.f k (v : Int) (n : Int)).bind fun u => if (txt (x / 2 ^ (a + n)) (64 - a - n)).size + u.size ≤ 9223372036854775807 then (if (txt (x / 2 ^ (a + n)) (64 - a - n) ++ u).size + (txt x a).size ≤ 9223372036854775807 then ((vernierref01_Number.f k ((txt (x / 2 ^ (a + n)) (64 - a - n) ++ u) ++ txt x a)).bind fun t => some (t, 0)) else none) else none) (fun k => ?_) (Ev.bind (Text_ev (n := n) hv (by omega)) ?_)
  · rw [e1, e2, txt_size, if_pos (by omega), if_pos (by omega), Int.toNat_natCast, Int.toNat_natCast]
    refine congrArg _ (funext fun u => ?_)
    rw [s1, s2, if_pos (show (0 : Int) ≤ ((64 - a : Nat) : Int) by omega), if_pos (show ((64 - a : Nat) : Int) ≤ ((64 : Nat) : Int) by omega)]
  · simp only [txt_append, txt_size]
    refine Ev.congr (fun k => by rw [if_pos (by omega), if_pos (by omega)]) (Ev.bind (Number_ev' (by omega)) ?_)
    have pa : 0 < 2 ^ a := Nat.pow_pos (by decide)
    have e : ((x / 2 ^ (a + n) * 2 ^ n + v % 2 ^ n) * 2 ^ a + x % 2 ^ a) = putN x a n v := by unfold putN; rw [Nat.pow_add]; grind
    rw [e, show 64 - a - n + n + a = 64 by omega, p64']
    have hlt : putN x a n v < 18446744073709551616 := by
      have pn : 0 < 2 ^ n := Nat.pow_pos (by decide)
      have e64 : 18446744073709551616 = 2 ^ (64 - a - n) * (2 ^ n * 2 ^ a) := by rw [← Nat.pow_add, ← Nat.pow_add, show 64 - a - n + (n + a) = 64 by omega, p64']
      have h1 : x / 2 ^ (a + n) < 2 ^ (64 - a - n) := by
        rw [Nat.div_lt_iff_lt_mul (Nat.pow_pos (by decide)), Nat.pow_add, Nat.mul_comm (2 ^ a), ← e64]; exact hx
      have h2 : v % 2 ^ n < 2 ^ n := Nat.mod_lt _ pn
      have h3 : x % 2 ^ a < 2 ^ a := Nat.mod_lt _ pa
      have h4 : v % 2 ^ n * 2 ^ a + 2 ^ a ≤ 2 ^ n * 2 ^ a := by rw [← Nat.succ_mul]; exact Nat.mul_le_mul_right _ h2
      have h5 : x / 2 ^ (a + n) * (2 ^ n * 2 ^ a) + 2 ^ n * 2 ^ a ≤ 2 ^ (64 - a - n) * (2 ^ n * 2 ^ a) := by rw [← Nat.succ_mul]; exact Nat.mul_le_mul_right _ h1
      unfold putN
      rw [Nat.pow_add, Nat.mul_comm (2 ^ a), ← Nat.pow_add, Nat.add_comm n a]
      rw [Nat.pow_add, Nat.mul_comm (2 ^ a)] at *
      omega
    rw [Nat.mod_eq_of_lt hlt]
    exact Ev.now _
end Go.Proofs.Ytjbcfiigafbobaa.M
