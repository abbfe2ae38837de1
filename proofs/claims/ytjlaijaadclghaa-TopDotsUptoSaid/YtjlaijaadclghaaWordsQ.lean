/- Words of 64 bits as natural numbers: what .. -/
import Derived.Test.YtjlaijaadclghaaF5Q
import Derived.Test.YtjlaijaadclghaaBaseQ
import Derived.Test.YtjlaijaadclghaaB1Q
namespace Go.Proofs.Ytjlaijaadclghaa.M
open RowKit YtjlaijaadclghaaW PrintWords PrintLast PrintMore F
set_option linter.all false
theorem u64_keep (n : Int) (h0 : 0 ≤ n) (h1 : n < 2 ^ 64) : IntKind.u64.wrap n = n := u64s h0 (by omega)
theorem and_nat {a b : Nat} (ha : a < 18446744073709551616) (hb : b < 18446744073709551616) : Go.bits .and .u64 (a : Int) (b : Int) = ((a &&& b : Nat) : Int) :=
 (bits_nat .u64 64 (by decide) u64_keep a b ha hb).1
theorem or_nat {a b : Nat} (ha : a < 18446744073709551616) (hb : b < 18446744073709551616) : Go.bits .or .u64 (a : Int) (b : Int) = ((a ||| b : Nat) : Int) :=
 (bits_nat .u64 64 (by decide) u64_keep a b ha hb).2
theorem not_nat {a : Nat} (ha : a < 18446744073709551616) : Go.bits .xor .u64 18446744073709551615 (a : Int) = ((18446744073709551615 - a : Nat) : Int) := by
 have c : (18446744073709551615 : Int) = ((18446744073709551615 : Nat) : Int) := rfl
 rw [c]
 simp only [bits, BitVec.ofInt_natCast]
 have h1 : (BitVec.ofNat IntKind.u64.bits 18446744073709551615 ^^^ BitVec.ofNat IntKind.u64.bits a).toNat = 18446744073709551615 - a := by
  show (BitVec.ofNat 64 18446744073709551615 ^^^ BitVec.ofNat 64 a).toNat = _
  rw [show (BitVec.ofNat 64 18446744073709551615) = BitVec.allOnes 64 from rfl, BitVec.allOnes_xor, BitVec.toNat_not, BitVec.toNat_ofNat, Nat.mod_eq_of_lt ha]
 rw [h1]
 exact u64s (by omega) (by omega)
theorem and_mask {a n : Nat} (ha : a < 18446744073709551616) (hn : n ≤ 64) : Go.bits .and .u64 (a : Int) ((2 ^ n - 1 : Nat) : Int) = ((a % 2 ^ n : Nat) : Int) := by
 have h1 : 2 ^ n ≤ 2 ^ 64 := Nat.pow_le_pow_right (by decide) hn
 have h2 : (2 : Nat) ^ 64 = 18446744073709551616 := by decide
 have h3 : 0 < 2 ^ n := Nat.pow_pos (by decide)
 rw [and_nat ha (by omega), Nat.and_two_pow_sub_one_eq_mod]
theorem or_add {a b n : Nat} (ha : a < 18446744073709551616) (hn : n ≤ 64) (hm : a % 2 ^ n = 0) (hb : b < 2 ^ n) : Go.bits .or .u64 (a : Int) (b : Int) = ((a + b : Nat) : Int) := by
 have h1 : 2 ^ n ≤ 2 ^ 64 := Nat.pow_le_pow_right (by decide) hn
 have h2 : (2 : Nat) ^ 64 = 18446744073709551616 := by decide
 rw [or_nat ha (by omega)]
 have hq : a = 2 ^ n * (a / 2 ^ n) := by
  have := Nat.div_add_mod a (2 ^ n); omega
 rw [hq, ← Nat.two_pow_add_eq_or_of_lt hb]
theorem shl_nat (a n : Nat) : shl .u64 (a : Int) (n : Int) = ((a * 2 ^ n % 18446744073709551616 : Nat) : Int) := by
 have c : ((18446744073709551616 : Nat) : Int) = 18446744073709551616 := rfl
 unfold shl
 rw [u64w, Int.toNat_natCast, show IntKind.u64.bits = 64 from rfl]
 by_cases h : n ≤ 64
 ·
  rw [Nat.min_eq_left h, Int.natCast_emod, c, Int.natCast_mul, Int.natCast_pow]; rfl
 ·
  rw [Nat.min_eq_right (by omega)]
  have h2 : a * 2 ^ n % 18446744073709551616 = 0 := by
   rw [show n = (n - 64) + 64 by omega, Nat.pow_add, ← Nat.mul_assoc]
   exact Nat.mul_mod_left ..
  rw [h2]
  have h3 : (a : Int) * 2 ^ 64 % 18446744073709551616 = 0 := Int.mul_emod_left ..
  rw [h3]; rfl
theorem shr_nat {a : Nat} (ha : a < 18446744073709551616) (n : Nat) : shr .u64 (a : Int) (n : Int) = ((a / 2 ^ n : Nat) : Int) := by
 unfold shr
 rw [Int.toNat_natCast, show IntKind.u64.bits = 64 from rfl]
 by_cases h : n ≤ 64
 ·
  rw [Nat.min_eq_left h, Int.natCast_ediv, Int.natCast_pow]; rfl
 ·
  rw [Nat.min_eq_right (by omega)]
  have h1 : 2 ^ 64 ≤ 2 ^ n := Nat.pow_le_pow_right (by decide) (by omega)
  have h2 : (2 : Nat) ^ 64 = 18446744073709551616 := by decide
  rw [Nat.div_eq_of_lt (by omega)]
  have h3 : (a : Int) / 2 ^ 64 = 0 := Int.ediv_eq_zero_of_lt (by omega) (by omega)
  rw [h3]; rfl
theorem len8_at : ∀ i : Fin 256, bt (⟨#[0, 1, 2, 2, 3, 3, 3, 3, 4, 4, 4, 4, 4, 4, 4, 4, 5, 5, 5, 5, 5, 5, 5, 5, 5, 5, 5, 5, 5, 5, 5, 5, 6, 6, 6, 6, 6, 6, 6, 6, 6, 6, 6, 6, 6, 6, 6, 6, 6, 6, 6, 6, 6, 6, 6, 6, 6, 6, 6, 6, 6, 6, 6, 6, 7, 7, 7, 7, 7, 7, 7, 7, 7, 7, 7, 7, 7, 7, 7, 7, 7, 7, 7, 7, 7, 7, 7, 7, 7, 7, 7, 7, 7, 7, 7, 7, 7, 7, 7, 7, 7, 7, 7, 7, 7, 7, 7, 7, 7, 7, 7, 7, 7, 7, 7, 7, 7, 7, 7, 7, 7, 7, 7, 7, 7, 7, 7, 7, 8, 8, 8, 8, 8, 8, 8, 8, 8, 8, 8, 8, 8, 8, 8, 8, 8, 8, 8, 8, 8, 8, 8, 8, 8, 8, 8, 8, 8, 8, 8, 8, 8, 8, 8, 8, 8, 8, 8, 8, 8, 8, 8, 8, 8, 8, 8, 8, 8, 8, 8, 8, 8, 8, 8, 8, 8, 8, 8, 8, 8, 8, 8, 8, 8, 8, 8, 8, 8, 8, 8, 8, 8, 8, 8, 8, 8, 8, 8, 8, 8, 8, 8, 8, 8, 8, 8, 8, 8, 8, 8, 8, 8, 8, 8, 8, 8, 8, 8, 8, 8, 8, 8, 8, 8, 8, 8, 8, 8, 8, 8, 8, 8, 8, 8, 8, 8, 8, 8, 8, 8, 8, 8, 8, 8, 8, 8, 8]⟩ : ByteArray) ((i.val : Nat) : Int) = ((blen i.val : Nat) : Int) := by decide +kernel
theorem len8_nat {i : Nat} (h : i < 256) : bt (⟨#[0, 1, 2, 2, 3, 3, 3, 3, 4, 4, 4, 4, 4, 4, 4, 4, 5, 5, 5, 5, 5, 5, 5, 5, 5, 5, 5, 5, 5, 5, 5, 5, 6, 6, 6, 6, 6, 6, 6, 6, 6, 6, 6, 6, 6, 6, 6, 6, 6, 6, 6, 6, 6, 6, 6, 6, 6, 6, 6, 6, 6, 6, 6, 6, 7, 7, 7, 7, 7, 7, 7, 7, 7, 7, 7, 7, 7, 7, 7, 7, 7, 7, 7, 7, 7, 7, 7, 7, 7, 7, 7, 7, 7, 7, 7, 7, 7, 7, 7, 7, 7, 7, 7, 7, 7, 7, 7, 7, 7, 7, 7, 7, 7, 7, 7, 7, 7, 7, 7, 7, 7, 7, 7, 7, 7, 7, 7, 7, 8, 8, 8, 8, 8, 8, 8, 8, 8, 8, 8, 8, 8, 8, 8, 8, 8, 8, 8, 8, 8, 8, 8, 8, 8, 8, 8, 8, 8, 8, 8, 8, 8, 8, 8, 8, 8, 8, 8, 8, 8, 8, 8, 8, 8, 8, 8, 8, 8, 8, 8, 8, 8, 8, 8, 8, 8, 8, 8, 8, 8, 8, 8, 8, 8, 8, 8, 8, 8, 8, 8, 8, 8, 8, 8, 8, 8, 8, 8, 8, 8, 8, 8, 8, 8, 8, 8, 8, 8, 8, 8, 8, 8, 8, 8, 8, 8, 8, 8, 8, 8, 8, 8, 8, 8, 8, 8, 8, 8, 8, 8, 8, 8, 8, 8, 8, 8, 8, 8, 8, 8, 8, 8, 8, 8, 8, 8, 8]⟩ : ByteArray) ((i : Nat) : Int) = ((blen i : Nat) : Int) := len8_at ⟨i, h⟩
theorem blen_shift {x k : Nat} (h : 2 ^ k ≤ x) : blen x = blen (x / 2 ^ k) + k := by
 have hp : 0 < 2 ^ k := Nat.pow_pos (by decide)
 have h1 : 0 < x / 2 ^ k := Nat.div_pos h hp
 have h2 := lt_blen (x / 2 ^ k)
 have h3 := blen_le h1
 have h4 := blen_pos h1
 refine blen_unique ?_ (Or.inr ?_)
 ·
  rw [Nat.pow_add]; exact (Nat.div_lt_iff_lt_mul hp).mp h2
 ·
  rw [show blen (x / 2 ^ k) + k - 1 = (blen (x / 2 ^ k) - 1) + k by omega, Nat.pow_add]
  exact (Nat.le_div_iff_mul_le hp).mp h3
theorem blen_le_of {x n : Nat} (h : x < 2 ^ n) : blen x ≤ n := by
 rcases Nat.eq_zero_or_pos x with h0 | h0
 ·
  subst h0; exact Nat.zero_le _
 ·
  have := blen_le h0
  rcases Nat.lt_or_ge n (blen x) with h1 | h1
  ·
   have : 2 ^ n ≤ 2 ^ (blen x - 1) := Nat.pow_le_pow_right (by decide) (by omega)
   omega
  ·
   exact h1
set_option maxRecDepth 100000 in
theorem Len64_j0 {x n : Nat} (hx : x < 4294967296) (hn : n ≤ 32) : Ev (fun k => bits_Len64.j0 k (x : Int) (n : Int)) ((n + blen x : Nat) : Int) := by
 refine Ev.step (f := fun _ => some ((n + blen x : Nat) : Int)) (fun k => ?_) (Ev.now _)
 have c1 : ((x : Int) / 65536) = ((x / 65536 : Nat) : Int) := rfl
 have c2 : ((x : Int) / 256) = ((x / 256 : Nat) : Int) := rfl
 simp only [bits_Len64.j0]
 by_cases h1 : 65536 ≤ x
 ·
  have hb := blen_shift (x := x) (k := 16) (by omega)
  rw [show (2 : Nat) ^ 16 = 65536 from rfl] at hb
  have hl : x / 65536 < 65536 := by omega
  rw [if_pos (by omega), c1]
  generalize x / 65536 = y at *
  have c3 : ((y : Int) / 256) = ((y / 256 : Nat) : Int) := rfl
  by_cases h2 : 256 ≤ y
  ·
   have hb2 := blen_shift (x := y) (k := 8) (by omega)
   rw [show (2 : Nat) ^ 8 = 256 from rfl] at hb2
   have hl2 : y / 256 < 256 := by omega
   have hz := blen_le_of (show y / 256 < 2 ^ 8 from hl2)
   have c4 : ((y / 256 : Nat) : Int) % 256 = ((y / 256 : Nat) : Int) := by omega
   rw [if_pos (by omega), c3, c4, if_pos (by omega), if_pos (by omega), len8_nat hl2, w64 (x := ((blen (y / 256) : Nat) : Int)) (by omega) (by omega), w64 (x := (n : Int) + 16) (by omega) (by omega), w64 (x := (n : Int) + 16 + 8) (by omega) (by omega), w64 (by omega) (by omega)]
   congr 1; omega
  ·
   have hz := blen_le_of (show y < 2 ^ 8 by omega)
   have c4 : (y : Int) % 256 = (y : Int) := by omega
   rw [if_neg (by omega), c4, if_pos (by omega), if_pos (by omega), len8_nat (by omega), w64 (x := ((blen y : Nat) : Int)) (by omega) (by omega), w64 (x := (n : Int) + 16) (by omega) (by omega), w64 (by omega) (by omega)]
   congr 1; omega
 ·
  rw [if_neg (by omega)]
  by_cases h2 : 256 ≤ x
  ·
   have hb2 := blen_shift (x := x) (k := 8) (by omega)
   rw [show (2 : Nat) ^ 8 = 256 from rfl] at hb2
   have hl2 : x / 256 < 256 := by omega
   have hz := blen_le_of (show x / 256 < 2 ^ 8 from hl2)
   have c4 : ((x / 256 : Nat) : Int) % 256 = ((x / 256 : Nat) : Int) := by omega
   rw [if_pos (by omega), c2, c4, if_pos (by omega), if_pos (by omega), len8_nat hl2, w64 (x := ((blen (x / 256) : Nat) : Int)) (by omega) (by omega), w64 (x := (n : Int) + 8) (by omega) (by omega), w64 (by omega) (by omega)]
   congr 1; omega
  ·
   have hz := blen_le_of (show x < 2 ^ 8 by omega)
   have c4 : (x : Int) % 256 = (x : Int) := by omega
   rw [if_neg (by omega), c4, if_pos (by omega), if_pos (by omega), len8_nat (by omega), w64 (x := ((blen x : Nat) : Int)) (by omega) (by omega), w64 (by omega) (by omega)]
   congr 1
theorem Len64_ev {x : Nat} (hx : x < 18446744073709551616) : Ev (fun k => bits_Len64.f k (x : Int)) ((blen x : Nat) : Int) := by
 unfold bits_Len64.f
 by_cases h : 4294967296 ≤ x
 ·
  have hb := blen_shift (x := x) (k := 32) (by omega)
  rw [show (2 : Nat) ^ 32 = 4294967296 from rfl] at hb
  rw [hb, Nat.add_comm]
  refine Ev.congr (fun k => if_pos (by omega)) ?_
  exact Len64_j0 (x := x / 4294967296) (n := 32) (by omega) (by omega)
 ·
  refine Ev.congr (fun k => if_neg (by omega)) ?_
  have := Len64_j0 (x := x) (n := 0) (by omega) (by omega)
  rw [Nat.zero_add] at this
  exact this
theorem LeadingZeros64_ev {x : Nat} (hx : x < 18446744073709551616) : Ev (fun k => bits_LeadingZeros64.f k (x : Int)) ((64 - blen x : Nat) : Int) := by
 have hz := blen_le_of (show x < 2 ^ 64 by omega)
 unfold bits_LeadingZeros64.f
 refine Ev.bind (Len64_ev hx) ?_
 rw [w64 (by omega) (by omega), show (64 : Int) - ((blen x : Nat) : Int) = ((64 - blen x : Nat) : Int) by omega]
 exact Ev.now _
end Go.Proofs.Ytjlaijaadclghaa.M
