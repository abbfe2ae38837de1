/- Patterns' strings: the string of a pattern's .. -/
import Derived.Test.YtjlaijaadclghaaMonoQ
import Derived.Test.YtjlaijaadclghaaF6Q
import Derived.Test.YtjlaijaadclghaaOrd2Q
import Derived.Test.YtjlaijaadclghaaCod5Q
import Derived.Test.YtjlaijaadclghaaB2Q
import Derived.Test.YtjlaijaadclghaaTop3Q
namespace Go.Proofs.Ytjlaijaadclghaa.M
set_option linter.all false
theorem sc_ends {n x : Nat} (hn : Wd n) (hx : 0 < x % 2 ^ (n - 1)) : -((4 * n - 8 : Nat) : Int) ≤ scI x (n - 1) ∧ scI x (n - 1) ≤ ((4 * n - 8 : Nat) : Int) := by
 have g1 := hn.ge
 have g2 := hn.le
 have hw : 0 < n - 1 := by omega
 have hr := runN_le x (n - 1)
 have hr0 := runN_pos (x := x) hw
 have he := exN_lt x (n - 1)
 have hlf : lfN x (n - 1) = n - 1 - runN x (n - 1) - 1 := rfl
 have hb := base_split (x := x) hw
 have hex : exN x (n - 1) ≤ 3 := by omega
 have h0 : n - 1 ≤ runN x (n - 1) + 1 → exN x (n - 1) = 0 := by
  intro hh
  have e : lfN x (n - 1) = 0 := by omega
  have e2 : ebN x (n - 1) = 0 := by unfold ebN; omega
  have e3 := eN_lt x (n - 1)
  rw [e2, Nat.pow_zero] at e3
  unfold exN
  rw [show eN x (n - 1) = 0 by omega, Nat.zero_mul]
 unfold scI rgI
 by_cases t : topB x (n - 1) = true
 ·
  rw [if_pos t]
  by_cases c : n - 1 ≤ runN x (n - 1) + 1
  ·
   have := h0 c; omega
  ·
   omega
 ·
  rw [if_neg t]
  have hnr : runN x (n - 1) < n - 1 := by
   rcases Nat.lt_or_ge (runN x (n - 1)) (n - 1) with c | c
   ·
    exact c
   ·
    exfalso
    have e : lfN x (n - 1) = 0 := by omega
    have hm : x % 2 ^ lfN x (n - 1) = 0 := by rw [e, Nat.pow_zero, Nat.mod_one]
    have hb0 : baseN x (n - 1) = 0 := by unfold baseN; rw [if_neg t, if_neg (by omega)]
    rw [hb0, hm] at hb
    omega
  omega
end Go.Proofs.Ytjlaijaadclghaa.M

namespace Go.Proofs.Ytjlaijaadclghaa.M
open RowKit YtjlaijaadclghaaW PrintWords PrintLast PrintMore F
set_option linter.all false
def nP (n a : Nat) : Bool := if kindN n a = 1 then topB a n else false
def sP (n a : Nat) : Int := if kindN n a = 1 then scI (abN n a) (n - 1) else 0
def fP (n a : Nat) : Nat := if kindN n a = 1 then mtN (abN n a) (n - 1) else 0
theorem means_eq {ε : Type} (n a : Nat) (e : ε) : meansT n a e = (kindN n a, nP n a, sP n a, (fP n a : Int), e) := by
 unfold meansT nP sP fP
 by_cases h : kindN n a = 1
 ·
  rw [if_pos h, if_pos h, if_pos h, if_pos h, h]
 ·
  rw [if_neg h, if_neg h, if_neg h, if_neg h]; rfl
theorem fP_lt {n a : Nat} (hn : Wd n) : fP n a < 18446744073709551616 := by
 unfold fP
 split
 ·
  have h := mtN_lt (x := abN n a) (w := n - 1) (by have := hn.ge; omega) (by have := hn.le; omega)
  unfold mtN; omega
 ·
  decide
theorem sP_range {n a : Nat} (hn : Wd n) (ha : a < 18446744073709551616) : -((4 * n - 8 : Nat) : Int) ≤ sP n a ∧ sP n a ≤ ((4 * n - 8 : Nat) : Int) := by
 unfold sP
 split
 ·
  rename_i hk; exact sc_ends hn (ab_pos hn ha hk)
 ·
  have := hn.ge; omega
theorem frac_div {n a : Nat} (hn : Wd n) (ha : a < 18446744073709551616) : ∃ g : Nat, fP n a * 2 ^ (sP n a + ((4 * n - 8 : Nat) : Int)).toNat = 2 ^ 63 * g := by
 have g1 := hn.ge
 have g2 := hn.le
 have hr := sP_range hn ha
 unfold sP fP at *
 by_cases hk : kindN n a = 1
 ·
  rw [if_pos hk] at hr
  rw [if_pos hk, if_pos hk]
  generalize hx : abN n a = x at *
  have hw : 0 < n - 1 := by omega
  have hfb := fb_le (x := x) hw
  have hrun := runN_pos (x := x) hw
  have hrl := runN_le x (n - 1)
  have hlf : lfN x (n - 1) = n - 1 - runN x (n - 1) - 1 := rfl
  have hsp := lf_split x (n - 1)
  have hz : ebN x (n - 1) < 2 → fbN x (n - 1) = 0 := by unfold fbN ebN; omega
  have heb := eb_le x (n - 1)
  have hge : (fbN x (n - 1) : Int) ≤ scI x (n - 1) + ((4 * n - 8 : Nat) : Int) := by
   by_cases c : ebN x (n - 1) < 2
   ·
    rw [hz c]; omega
   ·
    have hs : scI x (n - 1) = 4 * rgI x (n - 1) + (exN x (n - 1) : Int) := rfl
    have : -(runN x (n - 1) : Int) ≤ rgI x (n - 1) := by unfold rgI; split <;> omega
    omega
  have e : mtN x (n - 1) = (2 ^ fbN x (n - 1) + frN x (n - 1)) * 2 ^ (63 - fbN x (n - 1)) := by
   unfold mtN
   rw [Nat.add_mul, ← Nat.pow_add, show fbN x (n - 1) + (63 - fbN x (n - 1)) = 63 by omega]
  refine ⟨(2 ^ fbN x (n - 1) + frN x (n - 1)) * 2 ^ ((scI x (n - 1) + ((4 * n - 8 : Nat) : Int)).toNat - fbN x (n - 1)), ?_⟩
  rw [e, Nat.mul_assoc, ← Nat.pow_add, Nat.mul_left_comm, ← Nat.pow_add]
  congr 2
  omega
 ·
  rw [if_neg hk, Nat.zero_mul]
  exact ⟨0, rfl⟩
def uP (n a b : Nat) : Int := sP n a + sP n b - 126 + 8 * (n : Int) - 16
def dU (n a b : Nat) : Nat := fP n a * fP n b / 2 ^ (-uP n a b).toNat * 2 ^ (uP n a b).toNat
theorem uP_range {n a b : Nat} (hn : Wd n) (ha : a < 18446744073709551616) (hb : b < 18446744073709551616) : -126 ≤ uP n a b ∧ uP n a b ≤ 16 * (n : Int) - 158 := by
 have h1 := sP_range hn ha
 have h2 := sP_range hn hb
 have := hn.ge
 unfold uP
 omega
theorem units {n a b : Nat} (hn : Wd n) (ha : a < 18446744073709551616) (hb : b < 18446744073709551616) : dU n a b * 2 ^ 126 = fP n a * fP n b * 2 ^ (uP n a b + 126).toNat := by
 obtain ⟨g, hg⟩ := frac_div hn ha
 obtain ⟨h, hh⟩ := frac_div hn hb
 have hr := uP_range hn ha hb
 have r1 := sP_range hn ha
 have r2 := sP_range hn hb
 have g1 := hn.ge
 have hue : (uP n a b + 126).toNat = (sP n a + ((4 * n - 8 : Nat) : Int)).toNat + (sP n b + ((4 * n - 8 : Nat) : Int)).toNat := by unfold uP; omega
 have hall : fP n a * fP n b * 2 ^ (uP n a b + 126).toNat = 2 ^ 126 * (g * h) := by
  rw [hue, Nat.pow_add]
  have : fP n a * fP n b * (2 ^ (sP n a + ((4 * n - 8 : Nat) : Int)).toNat * 2 ^ (sP n b + ((4 * n - 8 : Nat) : Int)).toNat) = (fP n a * 2 ^ (sP n a + ((4 * n - 8 : Nat) : Int)).toNat) * (fP n b * 2 ^ (sP n b + ((4 * n - 8 : Nat) : Int)).toNat) := by grind
  rw [this, hg, hh, show (126 : Nat) = 63 + 63 from rfl, Nat.pow_add]
  grind
 unfold dU
 generalize fP n a * fP n b = P at *
 rcases Int.lt_or_le (uP n a b) 0 with c | c
 ·
  have e0 : (uP n a b).toNat = 0 := by omega
  have e1 : (126 : Nat) = (-uP n a b).toNat + (uP n a b + 126).toNat := by omega
  rw [e0, Nat.pow_zero, Nat.mul_one]
  have hp : 0 < 2 ^ (uP n a b + 126).toNat := Nat.pow_pos (by decide)
  have hP : P = 2 ^ (-uP n a b).toNat * (g * h) := by
   apply Nat.eq_of_mul_eq_mul_right hp
   rw [hall]
   have e2 : (2 : Nat) ^ 126 = 2 ^ (-uP n a b).toNat * 2 ^ (uP n a b + 126).toNat := by rw [← Nat.pow_add, ← e1]
   rw [e2]
   grind
  rw [hP, Nat.mul_div_cancel_left _ (Nat.pow_pos (by decide)), ← hP, hall, Nat.mul_comm]
 ·
  have e0 : (-uP n a b).toNat = 0 := by omega
  rw [e0, Nat.pow_zero, Nat.div_one, Nat.mul_assoc, ← Nat.pow_add, show (uP n a b).toNat + 126 = (uP n a b + 126).toNat by omega]
theorem units_lt {n a b : Nat} (hn : Wd n) (ha : a < 18446744073709551616) (hb : b < 18446744073709551616) : dU n a b < 2 ^ (16 * n - 30) := by
 have hu := units hn ha hb
 have hr := uP_range hn ha hb
 have g1 := hn.ge
 have f1 := fP_lt (a := a) hn
 have f2 := fP_lt (a := b) hn
 have hP : fP n a * fP n b < 2 ^ 128 := by
  rw [show (2 : Nat) ^ 128 = 18446744073709551616 * 18446744073709551616 by decide]
  exact Nat.mul_lt_mul'' f1 f2
 have hle : 2 ^ (uP n a b + 126).toNat ≤ 2 ^ (16 * n - 32) := Nat.pow_le_pow_right (by decide) (by omega)
 have h1 : dU n a b * 2 ^ 126 < 2 ^ (16 * n - 30) * 2 ^ 126 := by
  rw [hu, ← Nat.pow_add, show 16 * n - 30 + 126 = 128 + (16 * n - 32) by omega, Nat.pow_add]
  exact Nat.lt_of_lt_of_le ((Nat.mul_lt_mul_right (Nat.pow_pos (by decide))).mpr hP) (Nat.mul_le_mul_left _ hle)
 exact Nat.lt_of_mul_lt_mul_right h1
theorem units_none {n a b : Nat} (h : ¬ (kindN n a = 1 ∧ kindN n b = 1)) : dU n a b = 0 := by
 have : fP n a * fP n b = 0 := by
  unfold fP
  by_cases h1 : kindN n a = 1
  ·
   rw [if_neg (c := kindN n b = 1) (fun h2 => h ⟨h1, h2⟩), Nat.mul_zero]
  ·
   rw [if_neg h1, Nat.zero_mul]
 unfold dU
 rw [this, Nat.zero_div, Nat.zero_mul]
def sumI (f : Nat → Int) : Nat → Int
 | 0 => 0
 | i + 1 => sumI f i + f i
theorem sumI_congr {f g : Nat → Int} : ∀ n : Nat, (∀ j, j < n → f j = g j) → sumI f n = sumI g n
 | 0, _ => rfl
 | n + 1, h => by rw [sumI, sumI, sumI_congr n (fun j hj => h j (by omega)), h n (by omega)]
theorem sumI_split (f : Nat → Int) (p : Nat) : ∀ q : Nat, sumI f (p + q) = sumI f p + sumI (fun j => f (p + j)) q
 | 0 => by rw [Nat.add_zero]; simp [sumI]
 | q + 1 => by rw [← Nat.add_assoc, sumI, sumI_split f p q, sumI, Int.add_assoc]
theorem sumI_turn {L a : Nat} (f : Nat → Int) (h : a ≤ L) : sumI (fun j => f ((a + j) % L)) L = sumI f L := by
 rcases Nat.eq_zero_or_pos L with z | z
 ·
  subst z; rfl
 have h1 := sumI_split (fun j => f ((a + j) % L)) (L - a) a
 have h2 := sumI_split f a (L - a)
 rw [show L - a + a = L by omega] at h1
 rw [show a + (L - a) = L by omega] at h2
 rw [h1, h2, Int.add_comm]
 congr 1
 ·
  refine sumI_congr _ (fun j hj => ?_)
  show f ((a + (L - a + j)) % L) = f j
  rw [show a + (L - a + j) = j + L by omega, Nat.add_mod_right, Nat.mod_eq_of_lt (by omega)]
 ·
  refine sumI_congr _ (fun j hj => ?_)
  show f ((a + j) % L) = f (a + j)
  rw [Nat.mod_eq_of_lt (by omega)]
theorem sumI_abs (f : Nat → Int) (B : Nat) : ∀ n : Nat, (∀ j, j < n → (f j).natAbs ≤ B) → (sumI f n).natAbs ≤ n * B
 | 0, _ => by simp [sumI]
 | n + 1, h => by
  have h1 := sumI_abs f B n (fun j hj => h j (by omega))
  have h2 := h n (by omega)
  rw [sumI, Nat.succ_mul]
  omega
theorem sumI_nonneg (f : Nat → Int) (h : ∀ j, 0 ≤ f j) : ∀ n : Nat, 0 ≤ sumI f n
 | 0 => by simp [sumI]
 | n + 1 => by rw [sumI]; have := sumI_nonneg f h n; have := h n; omega
def nrN (n : Nat) (da db : Nat → Nat) : Nat → Bool
 | 0 => false
 | i + 1 => depN (nrN n da db i) (kindN n (da i)) (kindN n (db i))
def wsN (m n : Nat) (da db : Nat → Nat) (dm : Nat → Bool) : Nat → List Nat
 | 0 => List.replicate 16 0
 | i + 1 => depW (nrN n da db i) (dm i) (nP n (da i)) (nP n (db i)) (kindN n (da i)) (kindN n (db i)) m (wsN m n da db dm i) (fP n (da i) * fP n (db i)) (uP n (da i) (db i))
def sgD (n a b : Nat) (mi : Bool) : Int := sgV ((nP n a != nP n b) != mi) (dU n a b)
def smN (n : Nat) (da db : Nat → Nat) (dm : Nat → Bool) : Nat → Int := sumI (fun j => sgD n (da j) (db j) (dm j))
def inN (n a b : Nat) : Int := if kindN n a = 2 ∨ kindN n b = 2 then 1 else 0
theorem in_nonneg (n a b : Nat) : 0 ≤ inN n a b := by unfold inN; split <;> decide
theorem nr_sum (n : Nat) (da db : Nat → Nat) : ∀ i : Nat, nrN n da db i = decide (0 < sumI (fun j => inN n (da j) (db j)) i)
 | 0 => rfl
 | i + 1 => by
  rw [nrN, nr_sum n da db i, sumI]
  have h1 := sumI_nonneg (fun j => inN n (da j) (db j)) (fun j => in_nonneg _ _ _) i
  unfold depN
  rw [Bool.eq_iff_iff, Bool.or_eq_true, Bool.or_eq_true, decide_eq_true_eq, decide_eq_true_eq, beq_iff_eq, beq_iff_eq]
  generalize sumI (fun j => inN n (da j) (db j)) i = s at *
  unfold inN
  split <;> omega
theorem nr_mono {n : Nat} {da db : Nat → Nat} {i : Nat} (h : nrN n da db (i + 1) = false) : nrN n da db i = false ∧ kindN n (da i) ≠ 2 ∧ kindN n (db i) ≠ 2 := by
 rw [nrN] at h
 unfold depN at h
 rw [Bool.or_eq_false_iff, Bool.or_eq_false_iff, beq_eq_false_iff_ne, beq_eq_false_iff_ne] at h
 exact ⟨h.1.1, h.1.2, h.2⟩
theorem sgV_T (tk : Bool) (x : Nat) : sgV tk x = sgT tk * (x : Int) := by unfold sgV sgT; split <;> omega
theorem ws_inv {m n : Nat} {da db : Nat → Nat} (dm : Nat → Bool) (hn : Wd n) (hnm : n = 4 * m) (ha : ∀ i, da i < 18446744073709551616) (hb : ∀ i, db i < 18446744073709551616) : ∀ i : Nat,
  (wsN m n da db dm i).length = 16 ∧ Ws (wsN m n da db dm i) ∧ (wsN m n da db dm i).drop m = List.replicate (16 - m) 0 ∧ (nrN n da db i = true → wsN m n da db dm i = List.replicate 16 0) ∧ (nrN n da db i = false → Stands m (wsN m n da db dm i) (smN n da db dm i))
 | 0 => by
  refine ⟨List.length_replicate, Ws.zeros 16, by show (List.replicate 16 0).drop m = _; rw [List.drop_replicate], (fun h => by cases h), fun _ => ⟨0, ?_⟩⟩
  show (wN ((List.replicate 16 0).take m) : Int) = 0 + 0 * _
  rw [List.take_replicate, wN_zeros]; simp
 | i + 1 => by
  obtain ⟨h1, h2, h3, h4, h5⟩ := ws_inv dm hn hnm ha hb i
  have g1 := hn.ge
  have g2 := hn.le
  rw [wsN]
  unfold depW
  by_cases hnar : nrN n da db (i + 1) = true
  ·
   have hd : depN (nrN n da db i) (kindN n (da i)) (kindN n (db i)) = true := hnar
   rw [if_pos hd]
   exact ⟨List.length_replicate, Ws.zeros 16, by rw [List.drop_replicate], fun _ => rfl, (fun h => by rw [hnar] at h; cases h)⟩
  ·
   have hnf : nrN n da db (i + 1) = false := by simpa using hnar
   have hd : ¬ depN (nrN n da db i) (kindN n (da i)) (kindN n (db i)) = true := hnar
   obtain ⟨n0, k1, k2⟩ := nr_mono hnf
   rw [if_neg hd]
   by_cases hk : kindN n (da i) = 1 ∧ kindN n (db i) = 1
   ·
    rw [if_pos hk]
    have hr := uP_range hn (ha i) (hb i)
    have hup : (uP n (da i) (db i)).toNat / 64 < m := by omega
    have f1 := fP_lt (a := da i) hn
    have f2 := fP_lt (a := db i) hn
    have hP : fP n (da i) * fP n (db i) / 2 ^ (-uP n (da i) (db i)).toNat < 18446744073709551616 * 18446744073709551616 := Nat.lt_of_le_of_lt (Nat.div_le_self _ _) (Nat.mul_lt_mul'' f1 f2)
    have hd1 : dU n (da i) (db i) = fP n (da i) * fP n (db i) / 2 ^ (-uP n (da i) (db i)).toNat * 2 ^ (uP n (da i) (db i)).toNat := rfl
    generalize fP n (da i) * fP n (db i) / 2 ^ (-uP n (da i) (db i)).toNat = Q at *
    have hq1 : Q / 18446744073709551616 < 18446744073709551616 := Nat.div_lt_of_lt_mul hP
    have hq2 : Q % 18446744073709551616 < 18446744073709551616 := Nat.mod_lt _ (by decide)
    have hq3 : Q / 18446744073709551616 * 18446744073709551616 + Q % 18446744073709551616 = Q := by rw [Nat.mul_comm]; exact Nat.div_add_mod _ _
    refine ⟨enter_length _ _ _ _ h1 (by omega) hup, enter_ws _ _ _ _ h2, by rw [enter_drop _ _ _ _ h1 (by omega) hup]; exact h3, (fun h => by rw [hnf] at h; cases h), fun _ => ?_⟩
    have := enter_stands ((nP n (da i) != nP n (db i)) != dm i) h1 (by omega) hup h2 hq2 hq1 (h5 n0)
    rw [hq3, ← hd1, ← sgV_T] at this
    exact this
   ·
    rw [if_neg hk]
    refine ⟨h1, h2, h3, (fun h => by rw [hnf] at h; cases h), fun _ => ?_⟩
    have h6 := h5 n0
    have h7 : smN n da db dm (i + 1) = smN n da db dm i := by
     have hz : sgD n (da i) (db i) (dm i) = 0 := by
      unfold sgD
      rw [units_none hk]
      unfold sgV
      split <;> rfl
     show smN n da db dm i + sgD n (da i) (db i) (dm i) = _
     rw [hz, Int.add_zero]
    rw [h7]; exact h6
theorem sm_abs {n : Nat} {da db : Nat → Nat} (dm : Nat → Bool) (hn : Wd n) (ha : ∀ i, da i < 18446744073709551616) (hb : ∀ i, db i < 18446744073709551616) {i : Nat} (hi : i ≤ 1048576) : (smN n da db dm i).natAbs ≤ 1048576 * 2 ^ (16 * n - 30) := by
 have h := sumI_abs (fun j => sgD n (da j) (db j) (dm j)) (2 ^ (16 * n - 30)) i (fun j _ => by
  unfold sgD
  rw [sgV_abs]
  exact Nat.le_of_lt (units_lt hn (ha j) (hb j)))
 exact Nat.le_trans h (Nat.mul_le_mul_right _ hi)
theorem sm_small {m n : Nat} (hn : Wd n) (hnm : n = 4 * m) {S : Int} (h : S.natAbs ≤ 1048576 * 2 ^ (16 * n - 30)) : 2 * S.natAbs < 18446744073709551616 ^ m ∧ S.natAbs * 2 ^ 126 < 16777216 ^ 60 := by
 have g1 := hn.ge
 have g2 := hn.le
 have hp : 0 < 2 ^ (16 * n - 30) := Nat.pow_pos (by decide)
 have e1 : 18446744073709551616 ^ m = 2 ^ (16 * n - 30) * 2 ^ 30 := by
  rw [show (18446744073709551616 : Nat) = 2 ^ 64 by decide, ← Nat.pow_mul, ← Nat.pow_add]; congr 1; omega
 have hb : S.natAbs < 2097152 * 2 ^ (16 * n - 30) := by
  refine Nat.lt_of_le_of_lt h ((Nat.mul_lt_mul_right hp).mpr (by decide))
 constructor
 ·
  rw [e1]
  generalize 2 ^ (16 * n - 30) = p at *
  rw [show (2 : Nat) ^ 30 = 1073741824 by decide]
  omega
 ·
  have h2 : S.natAbs * 2 ^ 126 < 2097152 * 2 ^ (16 * n - 30) * 2 ^ 126 := (Nat.mul_lt_mul_right (Nat.pow_pos (by decide))).mpr hb
  refine Nat.lt_of_lt_of_le h2 ?_
  generalize hj : (60 : Nat) = j
  rw [show (2097152 : Nat) = 2 ^ 21 by decide, ← Nat.pow_add, ← Nat.pow_add, show (16777216 : Nat) = 2 ^ 24 by decide, ← Nat.pow_mul]
  exact Nat.pow_le_pow_right (by decide) (by omega)
end Go.Proofs.Ytjlaijaadclghaa.M
