/- The order of floats; what is more is rounded to no less; a pattern's float rises with it. -/
import Derived.Test.YtpdpggndhmnggaaF12e
import Derived.Test.YtpdpggndhmnggaaF29e
import Derived.Test.YtpdpggndhmnggaaF31e
import Derived.Test.YtpdpggndhmnggaaFlo12e
namespace Go.Proofs.Ytpdpggndhmnggaa.M
open Go.RowKit Go.Proofs.YtpdpggndhmnggaaW.PrintWords Go.Proofs.YtpdpggndhmnggaaW.PrintLast Go.Proofs.YtpdpggndhmnggaaW.PrintMore Go.Proofs.Ytpdpggndhmnggaa.F
set_option linter.unusedVariables false
set_option linter.unusedSimpArgs false
/-- A float's place in the order: its word without sign, with the sign. -/
def keyF (b : Nat) : Int := if b / 9223372036854775808 = 1 then -((b % 9223372036854775808 : Nat) : Int) else ((b % 9223372036854775808 : Nat) : Int)
def lowM (r : Nat) : Nat := if r < 4503599627370496 then r else 4503599627370496 + r % 4503599627370496
def lowP (r : Nat) : Int := if r < 4503599627370496 then -1074 else -1074 + (r / 4503599627370496 - 1 : Nat)
theorem low_pow {r : Nat} (h : 0 < r) : 0 < lowM r := by unfold lowM; split <;> omega
theorem fin_read {b : Nat} (hb : b < 18446744073709551616) (h : b % 9223372036854775808 < 9218868437227405312) : Ieee.double.read b = .number (b / 9223372036854775808 == 1) (lowM (b % 9223372036854775808)) (lowP (b % 9223372036854775808)) := by
  rw [d_read]
  unfold lowM lowP
  rw [show b / 9223372036854775808 % 2 = b / 9223372036854775808 by omega]
  by_cases c : b % 9223372036854775808 < 4503599627370496
  · rw [if_pos c, if_pos c, if_pos c]
  · rw [if_neg c, if_neg c, if_neg c, if_pos h]
theorem mag_lt {r s : Nat} {base : Int} (h : r < s) (h1 : base ≤ lowP r) : lowM r * 2 ^ (lowP r - base).toNat < lowM s * 2 ^ (lowP s - base).toNat := by
  have hp : 0 < 2 ^ (lowP r - base).toNat := Nat.pow_pos (by decide)
  have h3 : (lowP r = lowP s ∧ lowM r < lowM s) ∨ (lowP r < lowP s ∧ lowM r < 9007199254740992 ∧ 4503599627370496 ≤ lowM s) := by
    unfold lowP lowM
    by_cases c1 : r < 4503599627370496
    · rw [if_pos c1, if_pos c1]
      by_cases c2 : s < 4503599627370496
      · rw [if_pos c2, if_pos c2]; exact Or.inl ⟨rfl, h⟩
      · rw [if_neg c2, if_neg c2]; omega
    · rw [if_neg c1, if_neg c1, if_neg (by omega), if_neg (by omega)]; omega
  rcases h3 with ⟨e, m⟩ | ⟨e, m1, m2⟩
  · rw [e] at hp ⊢
    exact (Nat.mul_lt_mul_right hp).2 m
  · obtain ⟨d, hd⟩ : ∃ d : Nat, (lowP s - base).toNat = (lowP r - base).toNat + (d + 1) := ⟨(lowP s - lowP r).toNat - 1, by omega⟩
    rw [hd, Nat.pow_add]
    generalize 2 ^ (lowP r - base).toNat = A at *
    have h4 : 2 ^ (d + 1) = 2 * 2 ^ d := Nat.pow_succ' ..
    have hd0 : 0 < 2 ^ d := Nat.pow_pos (by decide)
    have h5 : 9007199254740992 ≤ lowM s * 2 ^ (d + 1) := by
      rw [h4]
      have : lowM s * 1 ≤ lowM s * 2 ^ d := Nat.mul_le_mul_left _ hd0
      have e2 : lowM s * (2 * 2 ^ d) = 2 * (lowM s * 2 ^ d) := by rw [Nat.mul_left_comm]
      rw [e2]; omega
    have e3 : lowM s * (A * 2 ^ (d + 1)) = lowM s * 2 ^ (d + 1) * A := by rw [Nat.mul_comm A, Nat.mul_assoc]
    rw [e3]
    exact (Nat.mul_lt_mul_right hp).2 (by omega)
theorem icmp_congr {A B C D : Int} (h1 : C < D → A < B) (h2 : D < C → B < A) (h3 : C = D → A = B) : compare A B = compare C D := by
  rcases Int.lt_trichotomy C D with c | c | c
  · rw [icmp_lt c, icmp_lt (h1 c)]
  · rw [h3 c, c, icmp_self, icmp_self]
  · rw [icmp_gt c, icmp_gt (h2 c)]
theorem ord_key {a b : Nat} (ha : a < 18446744073709551616) (hb : b < 18446744073709551616) (fa : a % 9223372036854775808 < 9218868437227405312) (fb : b % 9223372036854775808 < 9218868437227405312) :
    FloatKind.f64.format.order a b = some (compare (keyF a) (keyF b)) := by
  show (Ieee.double.read a).order (Ieee.double.read b) = _
  rw [fin_read ha fa, fin_read hb fb]
  unfold keyF
  have hs : a / 9223372036854775808 = 0 ∨ a / 9223372036854775808 = 1 := by omega
  have ht : b / 9223372036854775808 = 0 ∨ b / 9223372036854775808 = 1 := by omega
  generalize a / 9223372036854775808 = s at *
  generalize b / 9223372036854775808 = t at *
  generalize a % 9223372036854775808 = r at *
  generalize b % 9223372036854775808 = q at *
  show some (compare (Ieee.signed (s == 1) (lowM r) (lowP r - min (lowP r) (lowP q)).toNat) (Ieee.signed (t == 1) (lowM q) (lowP q - min (lowP r) (lowP q)).toNat)) = _
  congr 1
  have lt1 : r < q → _ := fun h => mag_lt (base := min (lowP r) (lowP q)) h (by omega)
  have lt2 : q < r → _ := fun h => mag_lt (base := min (lowP r) (lowP q)) h (by omega)
  have z1 : r = 0 → lowM r * 2 ^ (lowP r - min (lowP r) (lowP q)).toNat = 0 := fun h => by subst h; exact Nat.zero_mul _
  have z2 : q = 0 → lowM q * 2 ^ (lowP q - min (lowP r) (lowP q)).toNat = 0 := fun h => by subst h; exact Nat.zero_mul _
  have e1 : r = q → lowM r * 2 ^ (lowP r - min (lowP r) (lowP q)).toNat = lowM q * 2 ^ (lowP q - min (lowP r) (lowP q)).toNat := fun h => by subst h; rfl
  have p1 : 0 < r → 0 < lowM r * 2 ^ (lowP r - min (lowP r) (lowP q)).toNat := fun h => Nat.mul_pos (low_pow h) (Nat.pow_pos (by decide))
  have p2 : 0 < q → 0 < lowM q * 2 ^ (lowP q - min (lowP r) (lowP q)).toNat := fun h => Nat.mul_pos (low_pow h) (Nat.pow_pos (by decide))
  unfold Ieee.signed
  rw [Nat.shiftLeft_eq, Nat.shiftLeft_eq]
  generalize lowM r * 2 ^ (lowP r - min (lowP r) (lowP q)).toNat = X at *
  generalize lowM q * 2 ^ (lowP q - min (lowP r) (lowP q)).toNat = Y at *
  clear fa fb ha hb
  rcases hs with rfl | rfl <;> rcases ht with rfl | rfl <;> refine icmp_congr ?_ ?_ ?_ <;> simp only [show ((0 : Nat) == 1) = false from rfl, show ((1 : Nat) == 1) = true from rfl, Bool.false_eq_true, ↓reduceIte, if_true, if_false, show ¬ ((0 : Nat) = 1) by decide] <;> intro hh <;> omega
/-- x - x of a number is nought. -/
theorem sub_fin {b : Nat} (hb : b < 18446744073709551616) (h : b % 9223372036854775808 < 9218868437227405312) : floatBits .sub .f64 b b = some 0 := by
  show ((Ieee.double.read b).sum (Ieee.double.read b).opposite).map Ieee.double.write = _
  rw [fin_read hb h]
  generalize (b / 9223372036854775808 == 1) = s
  generalize lowM (b % 9223372036854775808) = m
  generalize lowP (b % 9223372036854775808) = P
  have e : Ieee.signed s m (P - min P P).toNat + Ieee.signed (!s) m (P - min P P).toNat = 0 := by
    unfold Ieee.signed
    cases s <;> simp <;> omega
  show Option.map Ieee.double.write (some (Ieee.Datum.number (if Ieee.signed s m (P - min P P).toNat + Ieee.signed (!s) m (P - min P P).toNat = 0 then s && !s else Ieee.signed s m (P - min P P).toNat + Ieee.signed (!s) m (P - min P P).toNat < 0) (Ieee.signed s m (P - min P P).toNat + Ieee.signed (!s) m (P - min P P).toNat).natAbs (min P P))) = _
  rw [e, if_pos rfl]
  cases s <;> rfl
theorem sub_inf {b : Nat} (hb : b < 18446744073709551616) (h : 9218868437227405312 ≤ b % 9223372036854775808) : floatBits .sub .f64 b b = none := by
  show ((Ieee.double.read b).sum (Ieee.double.read b).opposite).map Ieee.double.write = _
  rw [d_read, if_neg (by omega), if_neg (by omega)]
  generalize (b / 9223372036854775808 % 2 == 1) = s
  by_cases c : b % 9223372036854775808 = 9218868437227405312
  · rw [if_pos c]; cases s <;> rfl
  · rw [if_neg c]; rfl
theorem szF_mono {n r q : Nat} (hn : Wd n) (h : r ≤ q) (hq : q < 9218868437227405312) : szF n r ≤ szF n q := by
  unfold szF
  by_cases c0 : r = 0
  · rw [if_pos c0]; exact Nat.zero_le _
  · rw [if_neg c0, if_neg (by omega)]
    obtain ⟨a1, a2, a3, a4⟩ := mD_bounds (r := r) (by omega) (by omega)
    obtain ⟨b1, b2, b3, b4⟩ := mD_bounds (r := q) (by omega) hq
    have key : pD r < pD q ∨ (pD r = pD q ∧ mD r ≤ mD q) := by
      unfold pD mD
      by_cases c1 : r < 4503599627370496
      · rw [if_pos c1, if_pos c1]
        have hb1 : blen r ≤ 52 := blen_le_of c1
        by_cases c2 : q < 4503599627370496
        · rw [if_pos c2, if_pos c2]
          have hm := blen_mono h
          rcases Nat.lt_or_eq_of_le hm with d | d
          · exact Or.inl (by omega)
          · rw [d]; exact Or.inr ⟨rfl, Nat.mul_le_mul_right _ h⟩
        · rw [if_neg c2, if_neg c2]; exact Or.inl (by omega)
      · rw [if_neg c1, if_neg c1, if_neg (by omega), if_neg (by omega)]; omega
    unfold rd53
    have p127 : (2 : Nat) ^ 127 = 170141183460469231731687303715884105728 := by decide
    have p75 : (2 : Nat) ^ 75 = 37778931862957161709568 := by decide
    refine rdP_mono hn ?_
    rcases key with k | ⟨k1, k2⟩
    · exact Or.inl (by omega)
    · refine Or.inr ⟨by omega, ?_⟩
      rw [p127, p75]
      rcases Nat.lt_or_eq_of_le k2 with d | d
      · exact Or.inl (by omega)
      · exact Or.inr ⟨by rw [d], fun z => z⟩
theorem ext_rdF {n b : Nat} (hn : Wd n) (h : b % 9223372036854775808 < 9218868437227405312) : ext (rdF n b) n = if b / 9223372036854775808 = 1 then -(szF n (b % 9223372036854775808) : Int) else (szF n (b % 9223372036854775808) : Int) := by
  rw [rdF_sz hn h, ext_sign hn _ (szF_le hn _)]
  simp only [beq_iff_eq]
theorem rdF_mono {n a b : Nat} (hn : Wd n) (fa : a % 9223372036854775808 < 9218868437227405312) (fb : b % 9223372036854775808 < 9218868437227405312) (h : keyF a ≤ keyF b) : ext (rdF n a) n ≤ ext (rdF n b) n := by
  rw [ext_rdF hn fa, ext_rdF hn fb]
  unfold keyF at h
  have z : szF n 0 = 0 := by unfold szF; rw [if_pos rfl]
  by_cases s : a / 9223372036854775808 = 1
  · rw [if_pos s] at h ⊢
    by_cases t : b / 9223372036854775808 = 1
    · rw [if_pos t] at h ⊢
      have := szF_mono (n := n) (r := b % 9223372036854775808) (q := a % 9223372036854775808) hn (by omega) fa
      omega
    · rw [if_neg t]; omega
  · rw [if_neg s] at h ⊢
    by_cases t : b / 9223372036854775808 = 1
    · rw [if_pos t] at h ⊢
      have e1 : a % 9223372036854775808 = 0 := by omega
      have e2 : b % 9223372036854775808 = 0 := by omega
      rw [e1, e2, z]; decide
    · rw [if_neg t] at h ⊢
      have := szF_mono (n := n) (r := a % 9223372036854775808) (q := b % 9223372036854775808) hn (by omega) fb
      omega
theorem cutN_mono {v w k : Nat} (h : v ≤ w) : cutN v k ≤ cutN w k := by
  have hq : v / 2 ^ k ≤ w / 2 ^ k := Nat.div_le_div_right h
  have a1 := @cutN_bounds v k
  have a2 := @cutN_bounds w k
  rcases Nat.lt_or_eq_of_le hq with d | d
  · omega
  · have e1 := Nat.div_add_mod v (2 ^ k)
    have e2 := Nat.div_add_mod w (2 ^ k)
    rw [d] at e1
    have hr : v % 2 ^ k ≤ w % 2 ^ k := by omega
    unfold cutN
    rw [d]
    by_cases c : 2 ^ (k - 1) < v % 2 ^ k ∨ (v % 2 ^ k = 2 ^ (k - 1) ∧ w / 2 ^ k % 2 = 1)
    · rw [if_pos c, if_pos (by omega)]; exact Nat.le_refl _
    · rw [if_neg c]; omega
theorem toD_mono {sc sd : Int} {fr gr : Nat} (s0 : -1022 ≤ sc) (s1 : sd ≤ 1022) (f0 : 9223372036854775808 ≤ fr) (f1 : fr < 18446744073709551616) (g0 : 9223372036854775808 ≤ gr) (g1 : gr < 18446744073709551616) (h : sc < sd ∨ (sc = sd ∧ fr ≤ gr)) : toD sc fr ≤ toD sd gr := by
  obtain ⟨c1, c2⟩ := cut11 f0 f1
  obtain ⟨d1, d2⟩ := cut11 g0 g1
  unfold toD
  rcases h with h | ⟨h1, h2⟩
  · omega
  · subst h1
    have := cutN_mono (k := 11) h2
    omega
theorem toT_fin {n p : Nat} (h : Wd n) (hk : kindN n p ≠ 2) : toT n p < 18446744073709551616 ∧ toT n p % 9223372036854775808 < 9218868437227405312 ∧ keyF (toT n p) = if kindN n p = 1 then (if topB p n = true then -(toD (scI (abN n p) (n - 1)) (mtN (abN n p) (n - 1)) : Int) else (toD (scI (abN n p) (n - 1)) (mtN (abN n p) (n - 1)) : Int)) else 0 := by
  unfold toT keyF
  by_cases hk1 : kindN n p = 1
  · rw [if_pos hk1, if_pos hk1]
    obtain ⟨s0, s1⟩ := @sc_real n p h
    have f0 := mt_ge (abN n p) (n - 1)
    have f1 := mt_word (n := n) (p := p) h
    have hl := (toD_lt (sc := scI (abN n p) (n - 1)) (by omega) (by omega) f0 f1).1
    generalize toD (scI (abN n p) (n - 1)) (mtN (abN n p) (n - 1)) = D at *
    by_cases ht : topB p n = true
    · rw [if_pos ht, if_pos ht, if_pos (by omega)]
      refine ⟨by omega, by omega, by omega⟩
    · rw [if_neg ht, if_neg ht, if_neg (by omega)]
      refine ⟨by omega, by omega, by omega⟩
  · rw [if_neg hk1, if_neg hk, if_neg hk1]
    exact ⟨by decide, by decide, by decide⟩
theorem toT_mono {n p q : Nat} (h : Wd n) (hp : p < 18446744073709551616) (hq : q < 18446744073709551616) (kp : kindN n p ≠ 2) (kq : kindN n q ≠ 2) (hl : ext p n ≤ ext q n) : keyF (toT n p) ≤ keyF (toT n q) := by
  rw [(toT_fin h kp).2.2, (toT_fin h kq).2.2]
  have cmp : ∀ a b : Nat, szN n a ≤ szN n b → toD (scI (abN n a) (n - 1)) (mtN (abN n a) (n - 1)) ≤ toD (scI (abN n b) (n - 1)) (mtN (abN n b) (n - 1)) := by
    intro a b hab
    obtain ⟨s0, s1⟩ := @sc_real n a h
    obtain ⟨t0, t1⟩ := @sc_real n b h
    refine toD_mono (by omega) (by omega) (mt_ge _ _) (mt_word h) (mt_ge _ _) (mt_word h) ?_
    rcases Nat.lt_or_eq_of_le hab with d | d
    · rcases (sz_val (p := a) (q := b) h).1 d with e | ⟨e1, e2⟩
      · exact Or.inl e
      · exact Or.inr ⟨e1, by omega⟩
    · obtain ⟨e1, e2⟩ := (sz_val (p := a) (q := b) h).2 d
      exact Or.inr ⟨e1, by omega⟩
  have ex : ∀ a : Nat, a < 18446744073709551616 → kindN n a ≠ 2 → (kindN n a = 1 ∧ 0 < szN n a ∧ ext a n = if topB a n = true then -(szN n a : Int) else (szN n a : Int)) ∨ (kindN n a ≠ 1 ∧ ext a n = 0) := by
    intro a ha ka
    rcases kind_cases n a with ⟨hk, _⟩ | ⟨hk, _⟩ | hk
    · exact Or.inr ⟨by rw [hk]; decide, ext_zero h hk⟩
    · exact absurd hk ka
    · exact Or.inl ⟨hk, ab_pos h ha hk, ext_abs h ha hk⟩
  have c1 := cmp p q
  have c2 := cmp q p
  rcases ex p hp kp with ⟨k1, z1, e1⟩ | ⟨k1, e1⟩ <;> rcases ex q hq kq with ⟨k2, z2, e2⟩ | ⟨k2, e2⟩
  · rw [if_pos k1, if_pos k2]
    rw [e1, e2] at hl
    by_cases t1 : topB p n = true
    · rw [if_pos t1] at hl ⊢
      by_cases t2 : topB q n = true
      · rw [if_pos t2] at hl ⊢
        have := c2 (by omega); omega
      · rw [if_neg t2]; omega
    · rw [if_neg t1] at hl ⊢
      by_cases t2 : topB q n = true
      · rw [if_pos t2] at hl; omega
      · rw [if_neg t2] at hl ⊢
        have := c1 (by omega); omega
  · rw [if_pos k1, if_neg k2]
    rw [e1, e2] at hl
    by_cases t1 : topB p n = true
    · rw [if_pos t1]; omega
    · rw [if_neg t1] at hl; omega
  · rw [if_neg k1, if_pos k2]
    rw [e1, e2] at hl
    by_cases t2 : topB q n = true
    · rw [if_pos t2] at hl; omega
    · rw [if_neg t2]; omega
  · rw [if_neg k1, if_neg k2]; exact Int.le_refl _
end Go.Proofs.Ytpdpggndhmnggaa.M
