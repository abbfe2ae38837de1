/- All parts of the law over counts: what it .. -/
import Derived.Test.YtgaaeehohhnocaaC4b
import Derived.Test.YtgaaeehohhnocaaB5b
namespace Go.Proofs.Ytgaaeehohhnocaa.M
open RowKit YtgaaeehohhnocaaW PrintWords PrintLast PrintMore F
set_option linter.all false
theorem dep_doneT {m n a b : Nat} (tk nar : Bool) {ws : List Nat} (hn : Wd n) (hnm : n = 4 * m) (ha : a < 18446744073709551616) (hb : b < 18446744073709551616) (hl : ws.length = 16) (hw : Ws ws) {t : Int} (ht : 0 ≤ t ∧ t < 2147483647) (B : Nat) (W : World) (h : AccB W B m nar t ws) :
  Calls Try.prog 47 #[.pointer (some ⟨B, 0, none⟩), .int .u64 (a : Int), .int .u64 (b : Int), .bool tk] W fun e w' => e = .returned (errW none) ∧ AccB w' B m (depN nar (kindN n a) (kindN n b)) (t + 1) (depW nar tk (nP n a) (nP n b) (kindN n a) (kindN n b) m ws (fP n a * fP n b) (uP n a b)) ∧ Chg W w' B := by
 have g1 := hn.ge
 have g2 := hn.le
 have h4 : ((n : Nat) : Int) = 4 * (m : Int) := by omega
 have d1 := Decode_ev hn ha
 have d2 := Decode_ev hn hb
 rw [means_eq] at d1 d2
 obtain ⟨K, hK⟩ := Ev.both d1 d2
 obtain ⟨e1, e2⟩ := hK K (Nat.le_refl _)
 rw [h4] at e1 e2
 have r1 := sP_range hn ha
 have r2 := sP_range hn hb
 have f1 := fP_lt (a := a) hn
 have f2 := fP_lt (a := b) hn
 have hu := uP_range hn ha hb
 have hP : fP n a * fP n b < 18446744073709551616 * 18446744073709551616 := Nat.mul_lt_mul'' f1 f2
 have hq : fP n a * fP n b / 18446744073709551616 < 18446744073709551616 := Nat.div_lt_of_lt_mul hP
 refine (deposit_calls tk B m nar t ws K (a : Int) (b : Int) (kindN n a) (sP n a) (fP n a : Int) (kindN n b) (sP n b) (fP n b : Int) (nP n a) (nP n b) (fP n a * fP n b) (uP n a b) W h (by omega) (by omega) hl hw (by omega) (by omega) e1 e2 (fun _ _ => ⟨?_, hq, by omega⟩) (by unfold uP; omega) (by omega) (by omega)).mono ?_
 ·
  rw [Mul64_eq f1 f2]
  unfold hi lo
  rw [Nat.mod_eq_of_lt hq]
 ·
  rintro e w' ⟨h1, h2, h3⟩
  exact ⟨h1, h2, h3⟩
theorem one_pat {n : Nat} (hn : Wd n) : kindN n (2 ^ (n - 2)) = 1 ∧ nP n (2 ^ (n - 2)) = false ∧ sP n (2 ^ (n - 2)) = 0 ∧ fP n (2 ^ (n - 2)) = 2 ^ 63 ∧ 2 ^ (n - 2) < 18446744073709551616 := by
 rcases hn with rfl | rfl | rfl | rfl <;> decide +kernel
def oN (c : Int) : Nat := (Int.tmod (if c < 0 then -(c + 1) else c) 5).toNat
def bN (n p : Nat) (k : Nat) : Nat := if k = 1 then p else 2 ^ (n - 2)
def kN (k : Nat) : Bool := decide (k = 2)
def stC (m n p : Nat) (c : Nat → Int) (t0 : Int) : Nat → Bool × Int × List Nat × Int
 | 0 => (false, t0, List.replicate 16 0, 0)
 | i + 1 =>
  let s := stC m n p c t0 i
  let k := oN (c i)
  if k = 3 then (s.1, s.2.1, negW m s.2.2.1, -s.2.2.2)
  else if k = 4 then (if Int.tmod (c i) 3 = 0 then (false, 0, List.replicate 16 0, 0) else s)
  else if s.2.1 = 2147483647 then s
  else (depN s.1 (kindN n p) (kindN n (bN n p k)), s.2.1 + 1, depW s.1 (kN k) (nP n p) (nP n (bN n p k)) (kindN n p) (kindN n (bN n p k)) m s.2.2.1 (fP n p * fP n (bN n p k)) (uP n p (bN n p k)), s.2.2.2 + sgD n p (bN n p k) (kN k))
theorem oN_eq {c : Int} (h0 : -9223372036854775808 ≤ c) (h1 : c < 9223372036854775808) : verniertop_pick.f c 5 = some (oN c : Int) ∧ oN c < 5 := by
 have hne : ¬ ((5 : Int) = 0) := by decide
 unfold verniertop_pick.f oN
 by_cases hc : c < 0
 ·
  rw [if_pos hc, if_neg hne, if_pos hc, w64 (x := c + 1) (by omega) (by omega), w64 (by omega) (by omega), Int.tmod_eq_emod_of_nonneg (by omega)]
  have a := Int.emod_nonneg (-(c + 1)) hne
  have b := Int.emod_lt_of_pos (-(c + 1)) (show (0 : Int) < 5 by decide)
  exact ⟨by rw [Int.toNat_of_nonneg a], by omega⟩
 ·
  rw [if_neg hc, if_neg hne, if_neg hc, Int.tmod_eq_emod_of_nonneg (by omega)]
  have a := Int.emod_nonneg c hne
  have b := Int.emod_lt_of_pos c (show (0 : Int) < 5 by decide)
  exact ⟨by rw [Int.toNat_of_nonneg a], by omega⟩
theorem bN_lt {n p : Nat} (hn : Wd n) (hp : p < 18446744073709551616) (k : Nat) : bN n p k < 18446744073709551616 := by
 unfold bN
 split
 ·
  exact hp
 ·
  exact (one_pat hn).2.2.2.2
section
variable {m n p : Nat} {c : Nat → Int} {t0 : Int}
theorem st_turn {i : Nat} (h : oN (c i) = 3) : stC m n p c t0 (i + 1) = ((stC m n p c t0 i).1, (stC m n p c t0 i).2.1, negW m (stC m n p c t0 i).2.2.1, -(stC m n p c t0 i).2.2.2) := by
 rw [stC]; simp only [h]; rfl
theorem st_clear {i : Nat} (h : oN (c i) = 4) (hz : Int.tmod (c i) 3 = 0) : stC m n p c t0 (i + 1) = (false, 0, List.replicate 16 0, 0) := by
 rw [stC]; simp only [h]
 rw [if_neg (by decide), if_pos trivial, if_pos hz]
theorem st_stay {i : Nat} (h : oN (c i) = 4) (hz : Int.tmod (c i) 3 ≠ 0) : stC m n p c t0 (i + 1) = stC m n p c t0 i := by
 rw [stC]; simp only [h]
 rw [if_neg (by decide), if_pos trivial, if_neg hz]
theorem st_full {i : Nat} (h : oN (c i) < 3) (hf : (stC m n p c t0 i).2.1 = 2147483647) : stC m n p c t0 (i + 1) = stC m n p c t0 i := by
 rw [stC]
 rw [if_neg (by omega), if_neg (by omega), if_pos hf]
theorem st_room {i : Nat} (h : oN (c i) < 3) (hf : (stC m n p c t0 i).2.1 ≠ 2147483647) : stC m n p c t0 (i + 1) = (depN (stC m n p c t0 i).1 (kindN n p) (kindN n (bN n p (oN (c i)))), (stC m n p c t0 i).2.1 + 1, depW (stC m n p c t0 i).1 (kN (oN (c i))) (nP n p) (nP n (bN n p (oN (c i)))) (kindN n p) (kindN n (bN n p (oN (c i)))) m (stC m n p c t0 i).2.2.1 (fP n p * fP n (bN n p (oN (c i)))) (uP n p (bN n p (oN (c i)))), (stC m n p c t0 i).2.2.2 + sgD n p (bN n p (oN (c i))) (kN (oN (c i)))) := by
 rw [stC]
 rw [if_neg (by omega), if_neg (by omega), if_neg hf]
theorem dep_step {a b : Nat} {tk nar : Bool} {ws : List Nat} {S : Int} (hn : Wd n) (hnm : n = 4 * m) (ha : a < 18446744073709551616) (hb : b < 18446744073709551616) (h1 : ws.length = 16) (h2 : Ws ws) (h5 : nar = false → Stands m ws S) :
  (depW nar tk (nP n a) (nP n b) (kindN n a) (kindN n b) m ws (fP n a * fP n b) (uP n a b)).length = 16 ∧ Ws (depW nar tk (nP n a) (nP n b) (kindN n a) (kindN n b) m ws (fP n a * fP n b) (uP n a b)) ∧ (depN nar (kindN n a) (kindN n b) = false → Stands m (depW nar tk (nP n a) (nP n b) (kindN n a) (kindN n b) m ws (fP n a * fP n b) (uP n a b)) (S + sgD n a b tk)) := by
 have g1 := hn.ge
 have g2 := hn.le
 unfold depW
 by_cases hd : depN nar (kindN n a) (kindN n b) = true
 ·
  rw [if_pos hd]
  exact ⟨List.length_replicate, Ws.zeros 16, fun h => by rw [hd] at h; cases h⟩
 ·
  rw [if_neg hd]
  have hd' : depN nar (kindN n a) (kindN n b) = false := by simpa using hd
  have n0 : nar = false := by
   unfold depN at hd'
   rw [Bool.or_eq_false_iff, Bool.or_eq_false_iff] at hd'
   exact hd'.1.1
  by_cases hk : kindN n a = 1 ∧ kindN n b = 1
  ·
   rw [if_pos hk]
   have hr := uP_range hn ha hb
   have hup : (uP n a b).toNat / 64 < m := by omega
   have f1 := fP_lt (a := a) hn
   have f2 := fP_lt (a := b) hn
   have hP : fP n a * fP n b / 2 ^ (-uP n a b).toNat < 18446744073709551616 * 18446744073709551616 := Nat.lt_of_le_of_lt (Nat.div_le_self _ _) (Nat.mul_lt_mul'' f1 f2)
   have hd1 : dU n a b = fP n a * fP n b / 2 ^ (-uP n a b).toNat * 2 ^ (uP n a b).toNat := rfl
   generalize fP n a * fP n b / 2 ^ (-uP n a b).toNat = Q at *
   have hq1 : Q / 18446744073709551616 < 18446744073709551616 := Nat.div_lt_of_lt_mul hP
   have hq2 : Q % 18446744073709551616 < 18446744073709551616 := Nat.mod_lt _ (by decide)
   have hq3 : Q / 18446744073709551616 * 18446744073709551616 + Q % 18446744073709551616 = Q := by rw [Nat.mul_comm]; exact Nat.div_add_mod _ _
   refine ⟨enter_length _ _ _ _ h1 (by omega) hup, enter_ws _ _ _ _ h2, fun _ => ?_⟩
   have := enter_stands ((nP n a != nP n b) != tk) h1 (by omega) hup h2 hq2 hq1 (h5 n0)
   rw [hq3, ← hd1, ← sgV_T] at this
   exact this
  ·
   rw [if_neg hk]
   refine ⟨h1, h2, fun _ => ?_⟩
   have hz : sgD n a b tk = 0 := by
    unfold sgD
    rw [units_none hk]
    unfold sgV
    split <;> rfl
   rw [hz, Int.add_zero]
   exact h5 n0
theorem st_inv (hn : Wd n) (hnm : n = 4 * m) (hp : p < 18446744073709551616) (hc : ∀ i, -9223372036854775808 ≤ c i ∧ c i < 9223372036854775808) (ht0 : 0 ≤ t0 ∧ t0 ≤ 2147483647) : ∀ i : Nat,
  (stC m n p c t0 i).2.2.1.length = 16 ∧ Ws (stC m n p c t0 i).2.2.1 ∧ ((stC m n p c t0 i).1 = false → Stands m (stC m n p c t0 i).2.2.1 (stC m n p c t0 i).2.2.2) ∧ (0 ≤ (stC m n p c t0 i).2.1 ∧ (stC m n p c t0 i).2.1 ≤ 2147483647) ∧ (stC m n p c t0 i).2.2.2.natAbs ≤ i * 2 ^ (16 * n - 30)
 | 0 => by
  refine ⟨List.length_replicate, Ws.zeros 16, fun _ => ⟨0, ?_⟩, ht0, by show (0 : Int).natAbs ≤ _; simp⟩
  show (wN ((List.replicate 16 0).take m) : Int) = 0 + 0 * _
  rw [List.take_replicate, wN_zeros]; simp
 | i + 1 => by
  obtain ⟨h1, h2, h3, h4, h5⟩ := st_inv hn hnm hp hc ht0 i
  have g1 := hn.ge
  have g2 := hn.le
  have ho := (oN_eq (hc i).1 (hc i).2).2
  have hmul : (i + 1) * 2 ^ (16 * n - 30) = i * 2 ^ (16 * n - 30) + 2 ^ (16 * n - 30) := by rw [Nat.succ_mul]
  have hle : ∀ y : Nat, y ≤ i * 2 ^ (16 * n - 30) → y ≤ (i + 1) * 2 ^ (16 * n - 30) := fun y hy => Nat.le_trans hy (Nat.mul_le_mul_right _ (Nat.le_succ i))
  by_cases k3 : oN (c i) = 3
  ·
   rw [st_turn k3]
   refine ⟨neg_length h1 (by omega), (turn_ws _ _).append (h2.drop _), fun h => neg_stands h1 (by omega) h2 (h3 h), h4, ?_⟩
   show (-(stC m n p c t0 i).2.2.2).natAbs ≤ _
   rw [Int.natAbs_neg]; exact hle _ h5
  ·
   by_cases k4 : oN (c i) = 4
   ·
    by_cases hz : Int.tmod (c i) 3 = 0
    ·
     rw [st_clear k4 hz]
     refine ⟨List.length_replicate, Ws.zeros 16, fun _ => ⟨0, ?_⟩, by show (0 : Int) ≤ 0 ∧ (0 : Int) ≤ 2147483647; decide, by show (0 : Int).natAbs ≤ _; simp⟩
     show (wN ((List.replicate 16 0).take m) : Int) = 0 + 0 * _
     rw [List.take_replicate, wN_zeros]; simp
    ·
     rw [st_stay k4 hz]
     exact ⟨h1, h2, h3, h4, hle _ h5⟩
   ·
    by_cases hf : (stC m n p c t0 i).2.1 = 2147483647
    ·
     rw [st_full (by omega) hf]
     exact ⟨h1, h2, h3, h4, hle _ h5⟩
    ·
     rw [st_room (by omega) hf]
     obtain ⟨a1, a2, a3⟩ := dep_step (tk := kN (oN (c i))) hn hnm hp (bN_lt hn hp (oN (c i))) h1 h2 h3
     refine ⟨a1, a2, a3, by show 0 ≤ _ + (1 : Int) ∧ _ + (1 : Int) ≤ 2147483647; omega, ?_⟩
     have hd : (sgD n p (bN n p (oN (c i))) (kN (oN (c i)))).natAbs ≤ 2 ^ (16 * n - 30) := by
      unfold sgD
      rw [sgV_abs]
      exact Nat.le_of_lt (units_lt hn hp (bN_lt hn hp _))
     rw [hmul]
     exact Nat.le_trans (Int.natAbs_add_le _ _) (Nat.add_le_add h5 hd)
end
theorem chain {α : Type} (P : Nat → α → Prop) (R : Nat → α → α → Prop) (a0 : α) (h0 : P 0 a0) : ∀ N : Nat, (∀ i, i < N → ∀ a, P i a → ∃ b, R i a b ∧ P (i + 1) b) → ∃ v : Nat → α, v 0 = a0 ∧ (∀ i, i < N → R i (v i) (v (i + 1))) ∧ ∀ i, i ≤ N → P i (v i)
 | 0, _ => ⟨fun _ => a0, rfl, fun i h => absurd h (by omega), fun i h => by obtain rfl : i = 0 := (by omega); exact h0⟩
 | N + 1, h => by
  obtain ⟨v, v0, v1, v2⟩ := chain P R a0 h0 N (fun i hi => h i (by omega))
  obtain ⟨b, hb1, hb2⟩ := h N (by omega) (v N) (v2 N (Nat.le_refl _))
  refine ⟨fun i => if i ≤ N then v i else b, by simp [v0], fun i hi => ?_, fun i hi => ?_⟩
  ·
   rcases Nat.lt_or_ge i N with c | c
   ·
    simp only [if_pos (show i ≤ N by omega), if_pos (show i + 1 ≤ N by omega)]; exact v1 i c
   ·
    obtain rfl : i = N := by omega
    simp only [if_pos (Nat.le_refl i), if_neg (show ¬ i + 1 ≤ i by omega)]
    exact hb1
  ·
   rcases Nat.lt_or_ge i (N + 1) with c | c
   ·
    simp only [if_pos (show i ≤ N by omega)]; exact v2 i (by omega)
   ·
    obtain rfl : i = N + 1 := by omega
    simp only [if_neg (show ¬ N + 1 ≤ N by omega)]
    exact hb2
theorem VR.neg {U : Int} {n : Bool} {l : List Int} {E X : Int} (h : VR U n l E X) : VR U (!n) l E (-X) := by
 obtain ⟨v, h1, h2, h3, rfl⟩ := h
 refine ⟨v, h1, h2, h3, ?_⟩
 unfold sgV
 cases n <;> simp
theorem one_vr {n a : Nat} (hn : Wd n) (ha : a < 18446744073709551616) (mi : Bool) : ∃ E : Int, Ev (fun k => verniertop_valOf.f k (kindN n a) (nP n a) (sP n a) (fP n a : Int)) (nP n a, digs (fP n a), E) ∧ VR (UU n) (nP n a != mi) (digs (fP n a)) E (sgD n a (2 ^ (n - 2)) mi * 2 ^ 126) := by
 obtain ⟨E, h1, r1, k1⟩ := val_ev hn ha
 obtain ⟨o1, o2, o3, o4, o5⟩ := one_pat hn
 have g1 := hn.ge
 have g2 := hn.le
 refine ⟨E, h1, fP n a, rfl, by unfold UU; omega, by omega, ?_⟩
 have hat : atU (UU n) (fP n a) E = dU n a (2 ^ (n - 2)) * 2 ^ 126 := by
  by_cases hk : kindN n a = 1
  ·
   have hu := uP_range hn ha o5
   have hs := sP_range hn ha
   rw [units hn ha o5, o4]
   unfold atU
   rw [Nat.mul_assoc, ← Nat.pow_add]
   congr 2
   have := k1 hk
   unfold uP
   rw [o3]
   unfold UU
   omega
  ·
   rw [units_none (fun h => hk h.1), Nat.zero_mul, atU_zero]
   unfold fP
   rw [if_neg hk]
 rw [hat]
 unfold sgD sgV
 rw [o2]
 have e : (nP n a != false) = nP n a := by cases nP n a <;> rfl
 rw [e]
 split
 ·
  rw [Int.neg_mul]; rfl
 ·
  rfl
end Go.Proofs.Ytgaaeehohhnocaa.M
