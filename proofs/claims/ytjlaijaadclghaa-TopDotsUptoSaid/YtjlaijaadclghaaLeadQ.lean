/- Bits as text: the reference's texts of bits, .. -/
import Derived.Test.YtjlaijaadclghaaF14Q
import Derived.Test.YtjlaijaadclghaaWordsQ
import Derived.Test.YtjlaijaadclghaaF4Q
namespace Go.Proofs.Ytjlaijaadclghaa.M
open RowKit YtjlaijaadclghaaW PrintWords PrintLast PrintMore F
set_option linter.all false
def tx (x : Nat) : Nat → List Int
 | 0 => []
 | n + 1 => ((48 + x / 2 ^ n % 2 : Nat) : Int) :: tx x n
def txt (x n : Nat) : ByteArray := strOfNums (tx x n)
theorem tx_length (x n : Nat) : (tx x n).length = n := by
 induction n with
 | zero => rfl
 | succ n ih => simp [tx, ih]
theorem txt_size (x n : Nat) : (txt x n).size = n := by unfold txt; rw [strOfNums_size, tx_length]
theorem tx_getD (x : Nat) : ∀ n j : Nat, j < n → (tx x n).getD j 0 = ((48 + x / 2 ^ (n - 1 - j) % 2 : Nat) : Int) := by
 intro n
 induction n with
 | zero => intro j h; omega
 | succ n ih =>
  intro j h
  cases j with
  | zero => simp [tx]
  | succ j =>
   rw [tx, List.getD_cons_succ, ih j (by omega)]
   congr 5
   omega
theorem bt_str (xs : List Int) (j : Nat) (h : j < xs.length) : bt (strOfNums xs) (j : Int) = (xs.getD j 0).toNat % 256 := by
 unfold bt
 rw [dif_pos (by rw [strOfNums_size]; simpa using h)]
 have e : (strOfNums xs)[((j : Int)).toNat]'(by rw [strOfNums_size]; simpa using h) = UInt8.ofNat (xs.getD j 0).toNat := by
  show (strOfNums xs).data[((j : Int)).toNat]'_ = _
  simp [strOfNums, List.getD_eq_getElem?_getD, List.getElem?_eq_getElem h]
 rw [e]
 simp
theorem txt_bt {x n j : Nat} (h : j < n) : bt (txt x n) (j : Int) = ((48 + x / 2 ^ (n - 1 - j) % 2 : Nat) : Int) := by
 unfold txt
 rw [bt_str _ _ (by rw [tx_length]; exact h), tx_getD x n j h, Int.toNat_natCast]
 have : 48 + x / 2 ^ (n - 1 - j) % 2 < 256 := by omega
 omega
theorem tx_drop (x : Nat) : ∀ n a : Nat, a ≤ n → (tx x n).drop a = tx x (n - a) := by
 intro n
 induction n with
 | zero =>
  intro a h
  obtain rfl : a = 0 := by omega
  rfl
 | succ n ih =>
  intro a h
  cases a with
  | zero => rfl
  | succ a => rw [tx, List.drop_succ_cons, ih a (by omega)]; congr 1; omega
theorem tx_append (a b : Nat) : ∀ n m : Nat, tx a n ++ tx b m = tx (a * 2 ^ m + b % 2 ^ m) (n + m) := by
 intro n m
 have hp : 0 < 2 ^ m := Nat.pow_pos (by decide)
 have hb : b % 2 ^ m < 2 ^ m := Nat.mod_lt _ hp
 induction n with
 | zero =>
  rw [Nat.zero_add]
  show [] ++ tx b m = _
  rw [List.nil_append]
  have low : ∀ k, k ≤ m → tx b k = tx (a * 2 ^ m + b % 2 ^ m) k := by
   intro k
   induction k with
   | zero => intro _; rfl
   | succ k ih =>
    intro hk
    rw [tx, tx, ih (by omega)]
    congr 3
    have e : 2 ^ m = 2 ^ k * (2 * 2 ^ (m - k - 1)) := by rw [← Nat.pow_succ', ← Nat.pow_add]; congr 1; omega
    have hk2 : 0 < 2 ^ k := Nat.pow_pos (by decide)
    have e1 : (a * 2 ^ m + b % 2 ^ m) / 2 ^ k % 2 = b % 2 ^ m / 2 ^ k % 2 := by
     rw [show a * 2 ^ m = 2 ^ k * (2 * (a * 2 ^ (m - k - 1))) by rw [e]; grind, Nat.mul_add_div hk2, Nat.mul_add_mod]
    have e2 : b % 2 ^ m / 2 ^ k % 2 = b / 2 ^ k % 2 := by
     rw [e, Nat.mod_mul_right_div_self, Nat.mod_mul_right_mod]
    rw [e1, e2]
  exact low m (Nat.le_refl _)
 | succ n ih =>
  rw [tx, List.cons_append, ih, show n + 1 + m = (n + m) + 1 by omega, tx]
  congr 3
  have e : (a * 2 ^ m + b % 2 ^ m) / 2 ^ (n + m) = a / 2 ^ n := by
   rw [Nat.add_comm n m, Nat.pow_add, ← Nat.div_div_eq_div_mul, Nat.mul_comm a, Nat.mul_add_div hp, Nat.div_eq_of_lt hb, Nat.add_zero]
  rw [e]
theorem tx_split (x n a : Nat) (h : a ≤ n) : tx x n = tx (x / 2 ^ a) (n - a) ++ tx x a := by
 rw [tx_append, show n - a + a = n by omega]
 congr 1
 rw [Nat.mul_comm]
 exact (Nat.div_add_mod x (2 ^ a)).symm
theorem tx_take (x n b : Nat) (h : b ≤ n) : (tx x n).take b = tx (x / 2 ^ (n - b)) b := by
 rw [tx_split x n (n - b) (by omega), show n - (n - b) = b by omega]
 have := tx_length (x / 2 ^ (n - b)) b
 rw [List.take_append_of_le_length (by omega), List.take_of_length_le (by omega)]
theorem str_append (xs ys : List Int) : strOfNums xs ++ strOfNums ys = strOfNums (xs ++ ys) := by
 apply ByteArray.ext
 rw [ByteArray.data_append]
 simp [strOfNums]
theorem str_extract (xs : List Int) (a b : Nat) : (strOfNums xs).extract a b = strOfNums ((xs.take b).drop a) := by
 apply ByteArray.ext
 rw [ByteArray.data_extract]
 simp [strOfNums, List.map_take, List.map_drop, List.extract_eq_take_drop, List.drop_take]
theorem txt_append (a b n m : Nat) : txt a n ++ txt b m = txt (a * 2 ^ m + b % 2 ^ m) (n + m) := by
 unfold txt; rw [str_append, tx_append]
theorem txt_extract (x n a b : Nat) (hab : a ≤ b) (hb : b ≤ n) : (txt x n).extract a b = txt (x / 2 ^ (n - b)) (b - a) := by
 unfold txt; rw [str_extract, tx_take _ _ _ hb, tx_drop _ _ _ hab]
theorem Text_l0 {x : Nat} (hx : x < 18446744073709551616) : ∀ (n : Nat) (out : List Int), out.length + n ≤ 1000 → Ev (fun k => vernierref01_Text.l0 k (x : Int) out ((n : Int) - 1)) (strOfNums (out ++ tx x n)) := by
 intro n
 induction n with
 | zero =>
  intro out h
  refine Ev.step (f := fun _ => some (strOfNums out)) (fun k => ?_) ?_
  ·
   simp only [vernierref01_Text.l0]; rw [if_neg (by omega)]
  ·
   rw [tx, List.append_nil]; exact Ev.now _
 | succ n ih =>
  intro out h
  have e0 : (((n + 1 : Nat) : Int) - 1) = (n : Int) := by omega
  simp only [e0]
  refine Ev.step (f := fun k => vernierref01_Text.l0 k (x : Int) (out ++ [((48 + x / 2 ^ n % 2 : Nat) : Int)]) ((n : Int) - 1)) (fun k => ?_) ?_
  ·
   simp only [vernierref01_Text.l0]
   have e1 : (48 + Int.tmod ((x / 2 ^ n : Nat) : Int) 2) % 256 = ((48 + x / 2 ^ n % 2 : Nat) : Int) := by rw [tmod_nn (Int.natCast_nonneg _)]; omega
   rw [if_pos (by omega), if_pos (by omega), if_pos (by omega), shr_nat hx, e1, w64 (by omega) (by omega)]
  ·
   have := ih (out ++ [((48 + x / 2 ^ n % 2 : Nat) : Int)]) (by simp; omega)
   rw [List.append_assoc] at this
   exact this
theorem Text_ev {x n : Nat} (hx : x < 18446744073709551616) (hn : n ≤ 64) : Ev (fun k => vernierref01_Text.f k (x : Int) (n : Int)) (txt x n) := by
 unfold vernierref01_Text.f
 rw [w64 (by omega) (by omega)]
 exact Text_l0 hx n [] (by simp; omega)
theorem Number_l0 {x n : Nat} (hn : n ≤ 1000) : ∀ (d i : Nat), n - i ≤ d → i ≤ n → Ev (fun k => vernierref01_Number.l0 k (txt x n) ((x / 2 ^ (n - i) % 2 ^ i % 18446744073709551616 : Nat) : Int) (i : Int)) ((x % 2 ^ n % 18446744073709551616 : Nat) : Int) := by
 intro d
 induction d with
 | zero =>
  intro i hd hi
  obtain rfl : i = n := by omega
  refine Ev.step (f := fun _ => some ((x % 2 ^ i % 18446744073709551616 : Nat) : Int)) (fun k => ?_) (Ev.now _)
  simp only [vernierref01_Number.l0, txt_size]
  rw [if_neg (by omega), Nat.sub_self, Nat.pow_zero, Nat.div_one]
 | succ d ih =>
  intro i hd hi
  by_cases hgo : i < n
  ·
   refine Ev.step (f := fun k => vernierref01_Number.l0 k (txt x n) ((x / 2 ^ (n - (i + 1)) % 2 ^ (i + 1) % 18446744073709551616 : Nat) : Int) ((i + 1 : Nat) : Int)) (fun k => ?_) (ih (i + 1) (by omega) (by omega))
   simp only [vernierref01_Number.l0, txt_size]
   have e0 : n - 1 - i = n - (i + 1) := by omega
   have e1 : x / 2 ^ (n - i) = x / 2 ^ (n - (i + 1)) / 2 := by
    rw [Nat.div_div_eq_div_mul, ← Nat.pow_succ]; congr 2; omega
   have e2 : x / 2 ^ (n - (i + 1)) % 2 ^ (i + 1) = x / 2 ^ (n - (i + 1)) % 2 + 2 * (x / 2 ^ (n - (i + 1)) / 2 % 2 ^ i) := by rw [Nat.pow_succ', Nat.mod_mul]
   rw [if_pos (by omega), if_pos (by omega), txt_bt hgo, e0, e1, e2, w64 (by omega) (by omega)]
   generalize x / 2 ^ (n - (i + 1)) = y
   generalize y / 2 % 2 ^ i = z
   rw [u64w, u64w]
   congr 1
   omega
  ·
   exact ih i (by omega) hi
theorem Number_ev {x n : Nat} (hn : n ≤ 1000) : Ev (fun k => vernierref01_Number.f k (txt x n)) ((x % 2 ^ n % 18446744073709551616 : Nat) : Int) := by
 have := Number_l0 (x := x) hn n 0 (by omega) (by omega)
 rw [Nat.pow_zero, Nat.mod_one] at this
 exact this
theorem Number_ev' {x n : Nat} (hn : n ≤ 64) : Ev (fun k => vernierref01_Number.f k (txt x n)) ((x % 2 ^ n : Nat) : Int) := by
 have h1 : 2 ^ n ≤ 2 ^ 64 := Nat.pow_le_pow_right (by decide) hn
 have h2 : (2 : Nat) ^ 64 = 18446744073709551616 := by decide
 have h3 : x % 2 ^ n < 2 ^ n := Nat.mod_lt _ (Nat.pow_pos (by decide))
 have := Number_ev (x := x) (n := n) (by omega)
 rw [Nat.mod_eq_of_lt (a := x % 2 ^ n) (by omega)] at this
 exact this
end Go.Proofs.Ytjlaijaadclghaa.M

namespace Go.Proofs.Ytjlaijaadclghaa.M
open RowKit YtjlaijaadclghaaW PrintWords PrintLast PrintMore F
set_option linter.all false
theorem p64' : (2 : Nat) ^ 64 = 18446744073709551616 := by decide
theorem pow_le64 {n : Nat} (h : n ≤ 64) : 2 ^ n ≤ 18446744073709551616 := by rw [← p64']; exact Nat.pow_le_pow_right (by decide) h
theorem ones_eq {n : Nat} (h : n ≤ 64) : lead_ones.f (n : Int) = some ((2 ^ n - 1 : Nat) : Int) := by
 unfold lead_ones.f
 by_cases h1 : n = 64
 ·
  subst h1; rfl
 ·
  have hp := pow_le64 h
  have hp0 : 0 < 2 ^ n := Nat.pow_pos (by decide)
  have hlt : 2 ^ n < 18446744073709551616 := by rw [← p64']; exact Nat.pow_lt_pow_right (by decide) (by omega)
  have e := shl_nat 1 n
  rw [Nat.one_mul, Nat.mod_eq_of_lt hlt] at e
  rw [if_neg (by omega), if_pos (by omega), show (1 : Int) = ((1 : Nat) : Int) from rfl, e, u64s (by omega) (by omega)]
  congr 1; omega
theorem Mask_eq {n : Nat} (h : n ≤ 64) : lead_Mask.f (n : Int) = some (((2 ^ n - 1 : Nat) : Int), none) := by
 unfold lead_Mask.f
 rw [if_neg (by omega), if_neg (by omega), ones_eq h]; rfl
def fits (a n : Int) : Bool := decide (0 ≤ a ∧ a ≤ 64 ∧ 0 ≤ n ∧ n ≤ 64 - a)
theorem field_eq {a n : Int} : lead_field.f a n = some (fits a n) := by
 unfold lead_field.f fits
 by_cases h1 : a ≥ 0
 ·
  rw [if_pos h1]
  by_cases h2 : a ≤ 64
  ·
   rw [if_pos h2]
   by_cases h3 : n ≥ 0
   ·
    rw [if_pos h3, w64 (by omega) (by omega)]
    congr 1
    rw [Bool.eq_iff_iff, decide_eq_true_eq, decide_eq_true_eq]
    omega
   ·
    rw [if_neg h3, decide_eq_false (by omega)]
  ·
   rw [if_neg h2, decide_eq_false (by omega)]
 ·
  rw [if_neg h1, decide_eq_false (by omega)]
theorem Field_eq {x a n : Nat} (hx : x < 18446744073709551616) (h : a + n ≤ 64) : lead_Field.f (x : Int) (a : Int) (n : Int) = some (((x / 2 ^ a % 2 ^ n : Nat) : Int), none) := by
 have hf : fits (a : Int) (n : Int) = true := by unfold fits; rw [decide_eq_true_eq]; omega
 have hd : x / 2 ^ a ≤ x := Nat.div_le_self _ _
 unfold lead_Field.f
 rw [field_eq, hf]
 simp only [Option.bind_some, ↓reduceIte]
 rw [if_pos (by omega), ones_eq (by omega), shr_nat hx]
 simp only [Option.bind_some]
 rw [and_mask (Nat.lt_of_le_of_lt hd hx) (by omega)]
end Go.Proofs.Ytjlaijaadclghaa.M
