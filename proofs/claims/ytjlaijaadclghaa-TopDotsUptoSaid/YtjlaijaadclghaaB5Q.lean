/- The exact sum beside the words: its digits, .. -/
import Derived.Test.YtjlaijaadclghaaB4Q
import Derived.Test.YtjlaijaadclghaaCod5Q
namespace Go.Proofs.Ytjlaijaadclghaa.M
open RowKit YtjlaijaadclghaaW PrintWords PrintLast PrintMore F
set_option linter.all false
def UU (n : Nat) : Int := -(8 * (n : Int)) - 110
theorem ng_mod' {n q : Nat} (hn : n ≤ 64) (h0 : 0 < q) (h1 : q < 2 ^ n) : ngN q % 2 ^ n = 2 ^ n - q := by
 have e : 18446744073709551616 = 2 ^ n * 2 ^ (64 - n) := by rw [← Nat.pow_add, show n + (64 - n) = 64 by omega]
 have hp : 0 < 2 ^ (64 - n) := Nat.pow_pos (by decide)
 obtain ⟨c, hc⟩ : ∃ c, 2 ^ (64 - n) = c + 1 := ⟨2 ^ (64 - n) - 1, by omega⟩
 have hle : 2 ^ n ≤ 18446744073709551616 := by rw [e]; exact Nat.le_mul_of_pos_right _ hp
 have e2 : ngN q = 2 ^ n * c + (2 ^ n - q) := by
  unfold ngN
  rw [Nat.mod_eq_of_lt (by omega)]
  rw [hc, Nat.mul_add, Nat.mul_one] at e
  omega
 rw [e2, Nat.mul_add_mod, Nat.mod_eq_of_lt (by omega)]
theorem tp_shift {A k : Nat} (h : 0 < A) : tpM (A * 2 ^ k) = tpM A ∧ tpR (A * 2 ^ k) = tpR A ∧ ∀ U : Int, scU (U - k) (A * 2 ^ k) = scU U A := by
 have hb := blen_mul (k := k) h
 have hp : 0 < 2 ^ k := Nat.pow_pos (by decide)
 have e : A * 2 ^ k * 2 ^ 128 = A * 2 ^ 128 * 2 ^ k := by rw [Nat.mul_right_comm]
 refine ⟨?_, ?_, fun U => ?_⟩
 ·
  unfold tpM
  rw [hb, e, Nat.pow_add, Nat.mul_div_mul_right _ _ hp]
 ·
  unfold tpR
  rw [hb, e, Nat.pow_add, Nat.mul_mod_mul_right]
  refine decide_eq_decide.mpr ?_
  constructor
  ·
   intro g z; rw [z, Nat.zero_mul] at g; exact g rfl
  ·
   intro g z
   rcases Nat.mul_eq_zero.mp z with z | z
   ·
    exact g z
   ·
    omega
 ·
  unfold scU; rw [hb]; omega
theorem tie_bounds {n q : Nat} (hn : Wd n) (hq0 : 1 ≤ q) (hq1 : q + 2 ≤ 2 ^ (n - 1)) : UU n ≤ tieE n q ∧ tieE n q ≤ 4000 ∧ atU (UU n) (tieM n q) (tieE n q) < 16777216 ^ 80 := by
 have g1 := hn.ge
 have g2 := hn.le
 have hp : 2 ^ n = 2 * 2 ^ (n - 1) := by rw [← Nat.pow_succ']; congr 1; omega
 have hrun := run_odd (x := 2 * q + 1) (n := n) (by omega) (by omega) (by omega)
 have hfb := fb_odd hrun
 have hex := exN_lt (2 * q + 1) n
 have hfr := frN_lt (2 * q + 1) n
 have hs : scI (2 * q + 1) n = 4 * rgI (2 * q + 1) n + (exN (2 * q + 1) n : Int) := rfl
 have hrg : -(n : Int) ≤ rgI (2 * q + 1) n ∧ rgI (2 * q + 1) n ≤ n := by unfold rgI; split <;> omega
 have hrg2 : -((n : Int) - 2) ≤ rgI (2 * q + 1) n := by unfold rgI; split <;> omega
 clear hp hq1
 have hE : UU n ≤ tieE n q ∧ tieE n q ≤ 4 * (n : Int) + 3 := by unfold tieE UU; omega
 refine ⟨hE.1, by omega, ?_⟩
 have hM : tieM n q < 2 ^ 64 := by
  unfold tieM
  have h1 : 2 ^ fbN (2 * q + 1) n + frN (2 * q + 1) n < 2 ^ (fbN (2 * q + 1) n + 1) := by rw [Nat.pow_succ]; omega
  exact Nat.lt_of_lt_of_le h1 (Nat.pow_le_pow_right (by decide) (by omega))
 have h3 : (tieE n q - UU n).toNat ≤ 900 := by unfold UU; omega
 have h4 : atU (UU n) (tieM n q) (tieE n q) < 2 ^ 64 * 2 ^ (tieE n q - UU n).toNat := (Nat.mul_lt_mul_right (Nat.pow_pos (by decide))).mpr hM
 refine Nat.lt_of_lt_of_le h4 ?_
 generalize hj : (80 : Nat) = j
 rw [← Nat.pow_add, show (16777216 : Nat) = 2 ^ 24 by decide, ← Nat.pow_mul]
 exact Nat.pow_le_pow_right (by decide) (by omega)
theorem cmp_lt0 {a b : Nat} (h : a < b) : cmp a b < 0 := by unfold cmp; rw [if_pos h]; decide
theorem cmp_gt0 {a b : Nat} (h : b < a) : 0 < cmp a b := by unfold cmp; rw [if_neg (by omega), if_neg (by omega)]; decide
theorem cmp_eq0 (a : Nat) : cmp a a = 0 := by unfold cmp; rw [if_neg (by omega), if_pos rfl]
theorem near_done {n : Nat} {S : Int} {vn : Bool} {vl : List Int} {vE : Int} (hn : Wd n) (hv : VR (UU n) vn vl vE (S * 2 ^ 126)) (hb : S.natAbs * 2 ^ 126 < 16777216 ^ 60) (W : World) (A : Option Addr) (c : Nat) (hC : Kd.C (Kd.int .i64) W A vl.length vl) (hc : vl.length ≤ c) :
  Calls Try.prog 12 #[.int .i64 (n : Int), .int .u64 (rsP n S : Nat), .agg #[.bool vn, .slice A vl.length c, .int .i64 vE]] W fun e w' => e = .returned (.bool true) ∧ Below W.heap.size W w' := by
 have g1 := hn.ge
 have g2 := hn.le
 obtain ⟨v, rfl, hE0, hE1, hX⟩ := hv
 have hUU : -4000 ≤ UU n := by unfold UU; omega
 have hPw : Ev (fun k => vernierref05_Power.f k (wrap64 ((n : Int) - 1))) ((2 ^ (n - 1) : Nat) : Int) := by
  rw [show wrap64 ((n : Int) - 1) = ((n - 1 : Nat) : Int) by rw [w64 (by omega) (by omega)]; omega]
  exact Power_ev (by omega)
 have hV : atU (UU n) v vE = S.natAbs * 2 ^ 126 := by
  have := congrArg Int.natAbs hX
  rw [sgV_abs, Int.natAbs_mul] at this
  rw [← this]; rfl
 have hsg := sign_eq vn v vE
 by_cases hS : S = 0
 ·
  have hv0 : v = 0 := by
   rw [hS] at hV
   exact (atU_zero _ _ _).mp (by rw [hV]; simp)
  rw [if_pos hv0] at hsg
  have hr : rsP n S = 0 := by unfold rsP; rw [if_pos hS]
  rw [hr]
  obtain ⟨K, hK⟩ := hPw
  exact near_zero K (n : Int) vn A c (digs v) vE _ W hC hc hsg (hK K (Nat.le_refl _))
 ·
  have hA : 0 < S.natAbs := by omega
  have hv0 : v ≠ 0 := by
   intro z
   rw [z, (atU_zero _ 0 _).mpr rfl] at hV
   have := Nat.mul_pos hA (show 0 < 2 ^ 126 by decide)
   omega
  rw [if_neg hv0] at hsg
  obtain ⟨s1, s2, s3⟩ := tp_shift (k := 126) hA
  have s3' : scU (UU n) (S.natAbs * 2 ^ 126) = scU (16 - 8 * (n : Int)) S.natAbs := by
   rw [← s3 (16 - 8 * (n : Int))]; congr 1; unfold UU; omega
  have hVpos : 0 < S.natAbs * 2 ^ 126 := Nat.mul_pos hA (by decide)
  obtain ⟨q, hq⟩ : ∃ q, q = rdP n (scU (UU n) (S.natAbs * 2 ^ 126)) (tpM (S.natAbs * 2 ^ 126)) (tpR (S.natAbs * 2 ^ 126)) := ⟨_, rfl⟩
  have hqr := rdP_range hn (scU (UU n) (S.natAbs * 2 ^ 126)) (tpM (S.natAbs * 2 ^ 126)) (tpR (S.natAbs * 2 ^ 126))
  rw [← hq] at hqr
  have hrs : rsP n S = signN n (decide (S < 0)) q := by
   unfold rsP
   rw [if_neg hS]
   unfold rdN
   rw [hq, s3', s1, s2]
  have hN : 128 ≤ 2 ^ (n - 1) := by
   have : 2 ^ 7 ≤ 2 ^ (n - 1) := Nat.pow_le_pow_right (by decide) (by omega)
   exact this
  have hN2 : 2 ^ (n - 1) ≤ 9223372036854775808 := by
   have : 2 ^ (n - 1) ≤ 2 ^ 63 := Nat.pow_le_pow_right (by decide) (by omega)
   exact this
  have hpn : 2 ^ n = 2 * 2 ^ (n - 1) := by rw [← Nat.pow_succ']; congr 1; omega
  have hb80 : atU (UU n) v vE < 16777216 ^ 80 := by
   rw [hV]
   exact Nat.lt_of_lt_of_le hb (Nat.pow_le_pow_right (by decide) (by decide))
  have hup : ∃ K, ∀ k, K ≤ k → (q < 2 ^ (n - 1) - 1 → ∃ (tn : Bool) (tl : List Int) (tE u : Int), verniertop_tie.f k (n : Int) (q : Int) = some (tn, tl, tE) ∧ verniertop_size.f k vn (digs v) vE tn tl tE = some u ∧ (u < 0 ∨ (u = 0 ∧ q % 2 = 0))) := by
   by_cases c : q < 2 ^ (n - 1) - 1
   ·
    obtain ⟨b1, b2, b3⟩ := tie_bounds hn hqr.1 (show q + 2 ≤ 2 ^ (n - 1) by omega)
    have ht := tie_ev hn hqr.1 (show q + 2 ≤ 2 ^ (n - 1) by omega)
    have hs := size_ev (n0 := vn) (n1 := false) hUU hE0 hE1 b1 b2 hb80 b3
    have hne := near_up hn hVpos c hq.symm (tie_string hn hqr.1 (show q + 2 ≤ 2 ^ (n - 1) by omega) b1)
    rw [hV] at hs
    obtain ⟨K, hK⟩ := Ev.both ht hs
    refine ⟨K, fun k hk _ => ⟨_, _, _, _, (hK k hk).1, (hK k hk).2, ?_⟩⟩
    rcases hne with h | ⟨h, h2⟩
    ·
     exact Or.inl (cmp_lt0 h)
    ·
     right; rw [← h]; exact ⟨cmp_eq0 _, h2⟩
   ·
    exact ⟨0, fun k _ h => absurd h c⟩
  have hlow : ∃ K, ∀ k, K ≤ k → (1 < q → ∃ (tn : Bool) (tl : List Int) (tE u : Int), verniertop_tie.f k (n : Int) ((q - 1 : Nat) : Int) = some (tn, tl, tE) ∧ verniertop_size.f k vn (digs v) vE tn tl tE = some u ∧ (0 < u ∨ (u = 0 ∧ q % 2 = 0))) := by
   by_cases c : 1 < q
   ·
    have c1 : 1 ≤ q - 1 := by omega
    have c2 : q - 1 + 2 ≤ 2 ^ (n - 1) := by omega
    obtain ⟨b1, b2, b3⟩ := tie_bounds hn c1 c2
    have ht := tie_ev hn c1 c2
    have hs := size_ev (n0 := vn) (n1 := false) hUU hE0 hE1 b1 b2 hb80 b3
    have hne := near_low hn hVpos c hq.symm (tie_string hn c1 c2 b1)
    rw [hV] at hs
    obtain ⟨K, hK⟩ := Ev.both ht hs
    refine ⟨K, fun k hk _ => ⟨_, _, _, _, (hK k hk).1, (hK k hk).2, ?_⟩⟩
    rcases hne with h | ⟨h, h2⟩
    ·
     exact Or.inl (cmp_gt0 h)
    ·
     right; rw [← h]; exact ⟨cmp_eq0 _, h2⟩
   ·
    exact ⟨0, fun k _ h => absurd h c⟩
  obtain ⟨K1, hK1⟩ := hPw
  obtain ⟨K2, hK2⟩ := hup
  obtain ⟨K3, hK3⟩ := hlow
  by_cases hneg : S < 0
  ·
   have hvn : vn = true := by
    cases vn with
    | true => rfl
    | false =>
     exfalso
     unfold sgV at hX
     rw [if_neg (by decide)] at hX
     omega
   have hp2 : signN n true q = 2 * 2 ^ (n - 1) - q := by
    unfold signN
    rw [if_pos rfl, ng_mod' g2 (by omega) (by omega), hpn]
   have hNg := Neg06_ev hn (a := 2 * 2 ^ (n - 1) - q) (by omega)
   rw [ng_mod' g2 (by omega) (by omega), show 2 ^ n - (2 * 2 ^ (n - 1) - q) = q by omega] at hNg
   obtain ⟨K4, hK4⟩ := hNg
   rw [hvn] at hsg
   rw [hrs, decide_eq_true hneg, hp2]
   exact near_neg (K1 + K2 + K3 + K4) (n : Int) vn A c (digs v) vE q (2 ^ (n - 1)) _ W hC hc (by rw [hvn]; exact hsg) (hK1 _ (by omega)) hN hN2 hqr.1 (by omega) rfl (hK4 _ (by omega)) (hK2 _ (by omega)) (hK3 _ (by omega))
  ·
   have hvn : vn = false := by
    cases vn with
    | false => rfl
    | true =>
     exfalso
     unfold sgV at hX
     rw [if_pos rfl] at hX
     omega
   rw [hvn] at hsg
   have hp2 : signN n false q = q := by unfold signN; rw [if_neg (by decide)]
   rw [hrs, decide_eq_false hneg, hp2]
   exact near_pos (K1 + K2 + K3) (n : Int) vn A c (digs v) vE q (2 ^ (n - 1)) W hC hc (by rw [hvn]; exact hsg) (hK1 _ (by omega)) hN hN2 hqr.1 (by omega) (hK2 _ (by omega)) (hK3 _ (by omega))
theorem val_ev {n a : Nat} (hn : Wd n) (ha : a < 18446744073709551616) : ∃ E : Int, Ev (fun k => verniertop_valOf.f k (kindN n a) (nP n a) (sP n a) (fP n a : Int)) (nP n a, digs (fP n a), E) ∧ (-4 * (n : Int) - 55 ≤ E ∧ E ≤ 300) ∧ (kindN n a = 1 → E = sP n a - 63) := by
 have hr := sP_range hn ha
 have hf := fP_lt (a := a) hn
 have g1 := hn.ge
 have g2 := hn.le
 by_cases hk : kindN n a = 1
 ·
  refine ⟨sP n a - 63, ?_, by omega, fun _ => rfl⟩
  rw [hk]
  exact valOf_real (by omega) (by omega) hf
 ·
  refine ⟨0, ?_, by omega, fun h => absurd h hk⟩
  have h1 : nP n a = false := by unfold nP; rw [if_neg hk]
  have h2 : fP n a = 0 := by unfold fP; rw [if_neg hk]
  rw [h1, h2]
  exact valOf_none hk _ _ _
theorem prod_ev {n a b : Nat} (hn : Wd n) (ha : a < 18446744073709551616) (hb : b < 18446744073709551616) :
  ∃ (E1 E2 : Int), Ev (fun k => verniertop_valOf.f k (kindN n a) (nP n a) (sP n a) (fP n a : Int)) (nP n a, digs (fP n a), E1) ∧ Ev (fun k => verniertop_valOf.f k (kindN n b) (nP n b) (sP n b) (fP n b : Int)) (nP n b, digs (fP n b), E2) ∧ Ev (fun k => verniertop_times.f k (nP n a) (digs (fP n a)) E1 (nP n b) (digs (fP n b)) E2) (nP n a != nP n b, digs (fP n a * fP n b), E1 + E2) ∧ ∀ mi : Bool, VR (UU n) ((nP n a != nP n b) != mi) (digs (fP n a * fP n b)) (E1 + E2) (sgD n a b mi * 2 ^ 126) := by
 obtain ⟨E1, h1, r1, k1⟩ := val_ev hn ha
 obtain ⟨E2, h2, r2, k2⟩ := val_ev hn hb
 have g1 := hn.ge
 have g2 := hn.le
 have f1 := fP_lt (a := a) hn
 have f2 := fP_lt (a := b) hn
 have e80 : 18446744073709551616 ≤ 16777216 ^ 80 := by
  refine Nat.le_trans (show 18446744073709551616 ≤ 16777216 ^ 3 by decide) (Nat.pow_le_pow_right (by decide) (by decide))
 refine ⟨E1, E2, h1, h2, times_ev' (Nat.lt_of_lt_of_le f1 e80) (Nat.lt_of_lt_of_le f2 e80) (by omega) (by omega), fun mi => ⟨fP n a * fP n b, rfl, by unfold UU; omega, by omega, ?_⟩⟩
 have hat : atU (UU n) (fP n a * fP n b) (E1 + E2) = dU n a b * 2 ^ 126 := by
  by_cases hk : kindN n a = 1 ∧ kindN n b = 1
  ·
   rw [units hn ha hb]
   unfold atU
   rw [show (E1 + E2 - UU n).toNat = (uP n a b + 126).toNat by rw [k1 hk.1, k2 hk.2]; unfold UU uP; omega]
  ·
   rw [units_none hk, Nat.zero_mul, atU_zero]
   have : fP n a = 0 ∨ fP n b = 0 := by
    unfold fP
    by_cases h : kindN n a = 1
    ·
     right; rw [if_neg (fun h2 => hk ⟨h, h2⟩)]
    ·
     left; rw [if_neg h]
   rcases this with h | h
   ·
    rw [h, Nat.zero_mul]
   ·
    rw [h, Nat.mul_zero]
 rw [hat]
 unfold sgD sgV
 split
 ·
  rw [Int.neg_mul]; rfl
 ·
  rfl
theorem ev_all {Q : Nat → Nat → Prop} : ∀ L : Nat, (∀ i, i < L → ∃ K, ∀ k, K ≤ k → Q i k) → ∃ K, ∀ k, K ≤ k → ∀ i, i < L → Q i k
 | 0, _ => ⟨0, fun _ _ i h => absurd h (by omega)⟩
 | L + 1, h => by
  obtain ⟨K1, h1⟩ := ev_all L (fun i hi => h i (by omega))
  obtain ⟨K2, h2⟩ := h L (by omega)
  refine ⟨K1 + K2, fun k hk i hi => ?_⟩
  rcases Nat.lt_or_ge i L with c | c
  ·
   exact h1 k (by omega) i c
  ·
   obtain rfl : i = L := by omega
   exact h2 k (by omega)
end Go.Proofs.Ytjlaijaadclghaa.M
