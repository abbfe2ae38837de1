/- Patterns' strings: the string of a pattern's .. -/
import Derived.Test.YtgaaeehohhnocaaMonob
import Derived.Test.YtgaaeehohhnocaaF6b
import Derived.Test.YtgaaeehohhnocaaOrd2b
import Derived.Test.YtgaaeehohhnocaaCod5b
import Derived.Test.YtgaaeehohhnocaaB2b
import Derived.Test.YtgaaeehohhnocaaTop3b
import Derived.Test.YtgaaeehohhnocaaC1b
namespace Go.Proofs.Ytgaaeehohhnocaa.M
set_option linter.all false
theorem sc_ends {n x : Nat} (hn : Wd n) (hx : 0 < x % 2 ^ (n - 1)) : -((4 * n - 8 : Nat) : Int) ≤ scI x (n - 1) ∧ scI x (n - 1) ≤ ((4 * n - 8 : Nat) : Int) := by
 have g1 := hn.ge
 have g2 := hn.le
 have hw : 0 < n - 1 := by omega
 have hr := runN_le x (n - 1)
 have hr0 := runN_pos (x := x) hw
 have he := exN_lt x (n - 1)
 have hlf : lfN x (n - 1) = n - 1 - runN x (n - 1) - 1 := rfl
 have hb := base_split (x := x) hw
 have hex : exN x (n - 1) ≤ 3 := by omega
 have h0 : n - 1 ≤ runN x (n - 1) + 1 → exN x (n - 1) = 0 := by
  intro hh
  have e : lfN x (n - 1) = 0 := by omega
  have e2 : ebN x (n - 1) = 0 := by unfold ebN; omega
  have e3 := eN_lt x (n - 1)
  rw [e2, Nat.pow_zero] at e3
  unfold exN
  rw [show eN x (n - 1) = 0 by omega, Nat.zero_mul]
 unfold scI rgI
 by_cases t : topB x (n - 1) = true
 ·
  rw [if_pos t]
  by_cases c : n - 1 ≤ runN x (n - 1) + 1
  ·
   have := h0 c; omega
  ·
   omega
 ·
  rw [if_neg t]
  have hnr : runN x (n - 1) < n - 1 := by
   rcases Nat.lt_or_ge (runN x (n - 1)) (n - 1) with c | c
   ·
    exact c
   ·
    exfalso
    have e : lfN x (n - 1) = 0 := by omega
    have hm : x % 2 ^ lfN x (n - 1) = 0 := by rw [e, Nat.pow_zero, Nat.mod_one]
    have hb0 : baseN x (n - 1) = 0 := by unfold baseN; rw [if_neg t, if_neg (by omega)]
    rw [hb0, hm] at hb
    omega
  omega
end Go.Proofs.Ytgaaeehohhnocaa.M

namespace Go.Proofs.Ytgaaeehohhnocaa.M
open RowKit YtgaaeehohhnocaaW PrintWords PrintLast PrintMore F
set_option linter.all false
def nP (n a : Nat) : Bool := if kindN n a = 1 then topB a n else false
def sP (n a : Nat) : Int := if kindN n a = 1 then scI (abN n a) (n - 1) else 0
def fP (n a : Nat) : Nat := if kindN n a = 1 then mtN (abN n a) (n - 1) else 0
theorem means_eq {ε : Type} (n a : Nat) (e : ε) : meansT n a e = (kindN n a, nP n a, sP n a, (fP n a : Int), e) := by
 unfold meansT nP sP fP
 by_cases h : kindN n a = 1
 ·
  rw [if_pos h, if_pos h, if_pos h, if_pos h, h]
 ·
  rw [if_neg h, if_neg h, if_neg h, if_neg h]; rfl
theorem fP_lt {n a : Nat} (hn : Wd n) : fP n a < 18446744073709551616 := by
 unfold fP
 split
 ·
  have h := mtN_lt (x := abN n a) (w := n - 1) (by have := hn.ge; omega) (by have := hn.le; omega)
  unfold mtN; omega
 ·
  decide
theorem sP_range {n a : Nat} (hn : Wd n) (ha : a < 18446744073709551616) : -((4 * n - 8 : Nat) : Int) ≤ sP n a ∧ sP n a ≤ ((4 * n - 8 : Nat) : Int) := by
 unfold sP
 split
 ·
  rename_i hk; exact sc_ends hn (ab_pos hn ha hk)
 ·
  have := hn.ge; omega
theorem frac_div {n a : Nat} (hn : Wd n) (ha : a < 18446744073709551616) : ∃ g : Nat, fP n a * 2 ^ (sP n a + ((4 * n - 8 : Nat) : Int)).toNat = 2 ^ 63 * g := by
 have g1 := hn.ge
 have g2 := hn.le
 have hr := sP_range hn ha
 unfold sP fP at *
 by_cases hk : kindN n a = 1
 ·
  rw [if_pos hk] at hr
  rw [if_pos hk, if_pos hk]
  generalize hx : abN n a = x at *
  have hw : 0 < n - 1 := by omega
  have hfb := fb_le (x := x) hw
  have hrun := runN_pos (x := x) hw
  have hrl := runN_le x (n - 1)
  have hlf : lfN x (n - 1) = n - 1 - runN x (n - 1) - 1 := rfl
  have hsp := lf_split x (n - 1)
  have hz : ebN x (n - 1) < 2 → fbN x (n - 1) = 0 := by unfold fbN ebN; omega
  have heb := eb_le x (n - 1)
  have hge : (fbN x (n - 1) : Int) ≤ scI x (n - 1) + ((4 * n - 8 : Nat) : Int) := by
   by_cases c : ebN x (n - 1) < 2
   ·
    rw [hz c]; omega
   ·
    have hs : scI x (n - 1) = 4 * rgI x (n - 1) + (exN x (n - 1) : Int) := rfl
    have : -(runN x (n - 1) : Int) ≤ rgI x (n - 1) := by unfold rgI; split <;> omega
    omega
  have e : mtN x (n - 1) = (2 ^ fbN x (n - 1) + frN x (n - 1)) * 2 ^ (63 - fbN x (n - 1)) := by
   unfold mtN
   rw [Nat.add_mul, ← Nat.pow_add, show fbN x (n - 1) + (63 - fbN x (n - 1)) = 63 by omega]
  refine ⟨(2 ^ fbN x (n - 1) + frN x (n - 1)) * 2 ^ ((scI x (n - 1) + ((4 * n - 8 : Nat) : Int)).toNat - fbN x (n - 1)), ?_⟩
  rw [e, Nat.mul_assoc, ← Nat.pow_add, Nat.mul_left_comm, ← Nat.pow_add]
  congr 2
  omega
 ·
  rw [if_neg hk, Nat.zero_mul]
  exact ⟨0, rfl⟩
def uP (n a b : Nat) : Int := sP n a + sP n b - 126 + 8 * (n : Int) - 16
def dU (n a b : Nat) : Nat := fP n a * fP n b / 2 ^ (-uP n a b).toNat * 2 ^ (uP n a b).toNat
theorem uP_range {n a b : Nat} (hn : Wd n) (ha : a < 18446744073709551616) (hb : b < 18446744073709551616) : -126 ≤ uP n a b ∧ uP n a b ≤ 16 * (n : Int) - 158 := by
 have h1 := sP_range hn ha
 have h2 := sP_range hn hb
 have := hn.ge
 unfold uP
 omega
theorem units {n a b : Nat} (hn : Wd n) (ha : a < 18446744073709551616) (hb : b < 18446744073709551616) : dU n a b * 2 ^ 126 = fP n a * fP n b * 2 ^ (uP n a b + 126).toNat := by
 obtain ⟨g, hg⟩ := frac_div hn ha
 obtain ⟨h, hh⟩ := frac_div hn hb
 have hr := uP_range hn ha hb
 have r1 := sP_range hn ha
 have r2 := sP_range hn hb
 have g1 := hn.ge
 have hue : (uP n a b + 126).toNat = (sP n a + ((4 * n - 8 : Nat) : Int)).toNat + (sP n b + ((4 * n - 8 : Nat) : Int)).toNat := by unfold uP; omega
 have hall : fP n a * fP n b * 2 ^ (uP n a b + 126).toNat = 2 ^ 126 * (g * h) := by
  rw [hue, Nat.pow_add]
  have : fP n a * fP n b * (2 ^ (sP n a + ((4 * n - 8 : Nat) : Int)).toNat * 2 ^ (sP n b + ((4 * n - 8 : Nat) : Int)).toNat) = (fP n a * 2 ^ (sP n a + ((4 * n - 8 : Nat) : Int)).toNat) * (fP n b * 2 ^ (sP n b + ((4 * n - 8 : Nat) : Int)).toNat) := by grind
  rw [this, hg, hh, show (126 : Nat) = 63 + 63 from rfl, Nat.pow_add]
  grind
 unfold dU
 generalize fP n a * fP n b = P at *
 rcases Int.lt_or_le (uP n a b) 0 with c | c
 ·
  have e0 : (uP n a b).toNat = 0 := by omega
  have e1 : (126 : Nat) = (-uP n a b).toNat + (uP n a b + 126).toNat := by omega
  rw [e0, Nat.pow_zero, Nat.mul_one]
  have hp : 0 < 2 ^ (uP n a b + 126).toNat := Nat.pow_pos (by decide)
  have hP : P = 2 ^ (-uP n a b).toNat * (g * h) := by
   apply Nat.eq_of_mul_eq_mul_right hp
   rw [hall]
   have e2 : (2 : Nat) ^ 126 = 2 ^ (-uP n a b).toNat * 2 ^ (uP n a b + 126).toNat := by rw [← Nat.pow_add, ← e1]
   rw [e2]
   grind
  rw [hP, Nat.mul_div_cancel_left _ (Nat.pow_pos (by decide)), ← hP, hall, Nat.mul_comm]
 ·
  have e0 : (-uP n a b).toNat = 0 := by omega
  rw [e0, Nat.pow_zero, Nat.div_one, Nat.mul_assoc, ← Nat.pow_add, show (uP n a b).toNat + 126 = (uP n a b + 126).toNat by omega]
theorem units_lt {n a b : Nat} (hn : Wd n) (ha : a < 18446744073709551616) (hb : b < 18446744073709551616) : dU n a b < 2 ^ (16 * n - 30) := by
 have hu := units hn ha hb
 have hr := uP_range hn ha hb
 have g1 := hn.ge
 have f1 := fP_lt (a := a) hn
 have f2 := fP_lt (a := b) hn
 have hP : fP n a * fP n b < 2 ^ 128 := by
  rw [show (2 : Nat) ^ 128 = 18446744073709551616 * 18446744073709551616 by decide]
  exact Nat.mul_lt_mul'' f1 f2
 have hle : 2 ^ (uP n a b + 126).toNat ≤ 2 ^ (16 * n - 32) := Nat.pow_le_pow_right (by decide) (by omega)
 have h1 : dU n a b * 2 ^ 126 < 2 ^ (16 * n - 30) * 2 ^ 126 := by
  rw [hu, ← Nat.pow_add, show 16 * n - 30 + 126 = 128 + (16 * n - 32) by omega, Nat.pow_add]
  exact Nat.lt_of_lt_of_le ((Nat.mul_lt_mul_right (Nat.pow_pos (by decide))).mpr hP) (Nat.mul_le_mul_left _ hle)
 exact Nat.lt_of_mul_lt_mul_right h1
theorem units_none {n a b : Nat} (h : ¬ (kindN n a = 1 ∧ kindN n b = 1)) : dU n a b = 0 := by
 have : fP n a * fP n b = 0 := by
  unfold fP
  by_cases h1 : kindN n a = 1
  ·
   rw [if_neg (c := kindN n b = 1) (fun h2 => h ⟨h1, h2⟩), Nat.mul_zero]
  ·
   rw [if_neg h1, Nat.zero_mul]
 unfold dU
 rw [this, Nat.zero_div, Nat.zero_mul]
def sgD (n a b : Nat) (mi : Bool) : Int := sgV ((nP n a != nP n b) != mi) (dU n a b)
theorem sgV_T (tk : Bool) (x : Nat) : sgV tk x = sgT tk * (x : Int) := by unfold sgV sgT; split <;> omega
theorem sm_small {m n : Nat} (hn : Wd n) (hnm : n = 4 * m) {S : Int} (h : S.natAbs ≤ 400 * 2 ^ (16 * n - 30)) : 2 * S.natAbs < 18446744073709551616 ^ m ∧ S.natAbs * 2 ^ 126 < 16777216 ^ 60 := by
 have g1 := hn.ge
 have g2 := hn.le
 have hp : 0 < 2 ^ (16 * n - 30) := Nat.pow_pos (by decide)
 have e1 : 18446744073709551616 ^ m = 2 ^ (16 * n - 30) * 2 ^ 30 := by
  rw [show (18446744073709551616 : Nat) = 2 ^ 64 by decide, ← Nat.pow_mul, ← Nat.pow_add]; congr 1; omega
 have hb : S.natAbs < 512 * 2 ^ (16 * n - 30) := by
  refine Nat.lt_of_le_of_lt h ((Nat.mul_lt_mul_right hp).mpr (by decide))
 constructor
 ·
  rw [e1]
  generalize 2 ^ (16 * n - 30) = p at *
  rw [show (2 : Nat) ^ 30 = 1073741824 by decide]
  omega
 ·
  have h2 : S.natAbs * 2 ^ 126 < 512 * 2 ^ (16 * n - 30) * 2 ^ 126 := (Nat.mul_lt_mul_right (Nat.pow_pos (by decide))).mpr hb
  refine Nat.lt_of_lt_of_le h2 ?_
  generalize hj : (60 : Nat) = j
  rw [show (512 : Nat) = 2 ^ 9 from rfl, ← Nat.pow_add, ← Nat.pow_add, show (16777216 : Nat) = 2 ^ 24 by decide, ← Nat.pow_mul]
  exact Nat.pow_le_pow_right (by decide) (by omega)
end Go.Proofs.Ytgaaeehohhnocaa.M

namespace Go.Proofs.Ytgaaeehohhnocaa.M
open RowKit YtgaaeehohhnocaaW PrintWords PrintLast PrintMore F
set_option linter.all false
def rsP (n : Nat) (S : Int) : Nat := if S = 0 then 0 else rdN n (decide (S < 0)) (scU (16 - 8 * (n : Int)) S.natAbs) (tpM S.natAbs) (tpR S.natAbs)
theorem Ev.get {α β : Type} {g : Nat → Option α} {f : Nat → Option β} {a : α} {b : β} (h : Ev g a) (k : Ev f b) : ∃ n, g n = some a ∧ f n = some b := by
 obtain ⟨K, hK⟩ := Ev.both h k
 exact ⟨K, hK K (Nat.le_refl _)⟩
theorem tw_top {h l : Nat} (hl : l < 18446744073709551616) (ht : 170141183460469231731687303715884105728 ≤ tw h l) : 9223372036854775808 ≤ h := by unfold tw at ht; omega
theorem round_done {m n : Nat} {ws : List Nat} {S : Int} (hn : Wd n) (hnm : n = 4 * m) (hl : ws.length = 16) (hw : Ws ws) (hst : Stands m ws S) (hS : 2 * S.natAbs < 18446744073709551616 ^ m) (b : Nat) (t : Int) (W : World) (h : AccB W b m false t ws) :
  Calls Try.prog 15 #[.pointer (some ⟨b, 0, none⟩)] W fun e w' => e = .returned (.int .u64 (rsP n S : Nat)) ∧ Below W.heap.size W w' := by
 have g1 := hn.ge
 have g2 := hn.le
 have hm2 : 2 ≤ m := by omega
 have hm16 : m ≤ 16 := by omega
 obtain ⟨hv, hlen⟩ := mag_val (by omega) hm16 hl hw hst hS
 have hsg := (stands_small (by omega) hm16 hl hw hst hS).1
 have hmw : Ws (magW m ws) := magW_lt hw
 obtain ⟨t1, t2, t3⟩ := top_val (ls := magW m ws) (m - 1) (by omega)
 rw [show m - 1 + 1 = m by omega, hv] at t1
 have hneg : decide (9223372036854775808 ≤ ws.getD (m - 1) 0) = decide (S < 0) := decide_eq_decide.mpr hsg.symm
 have h0w := th_ws hmw (topI (magW m ws) (m - 1)) 0
 have hLZ := LeadingZeros64_ev h0w
 have hth : thW (magW m ws) (topI (magW m ws) (m - 1)) 0 = (magW m ws).getD (topI (magW m ws) (m - 1)) 0 := by unfold thW; rw [if_pos (Nat.zero_le _)]; rfl
 have h4 : ((n : Nat) : Int) = 4 * (m : Int) := by omega
 by_cases hz : thW (magW m ws) (topI (magW m ws) (m - 1)) 0 = 0
 ·
  -- nought
  have hi0 : topI (magW m ws) (m - 1) = 0 := by
   rcases t3 with t3 | t3
   ·
    exact t3
   ·
    rw [← hth] at t3; exact absurd hz t3
  rw [hi0] at t1 hz hLZ
  have hS0 : S.natAbs = 0 := by
   rw [t1, wN_snoc (k := 0) (by omega)]
   rw [show thW (magW m ws) 0 0 = (magW m ws).getD 0 0 from rfl] at hz
   rw [hz]; rfl
  have hS0' : S = 0 := by omega
  rw [hz] at hLZ
  have hM := Make_ev (neg := decide (S < 0)) (rest := false) (h := 0) (l := 0) (e := 64 * ((0 : Int) - 1) - 0 + 16 - 8 * (4 * (m : Int))) (by decide) (by decide) (by omega) (by omega) (fun h => by cases h)
  rw [if_pos (by rfl)] at hM
  have hR := Round_zero hn
  obtain ⟨K1, hK1⟩ := Ev.both hLZ hM
  obtain ⟨K2, hK2⟩ := hR
  obtain ⟨a1, a2⟩ := hK1 (K1 + K2) (by omega)
  have a3 := hK2 (K1 + K2) (by omega)
  have w1 : thW (magW m ws) 0 1 = 0 := by unfold thW; rw [if_neg (by decide)]
  have w2 : thW (magW m ws) 0 2 = 0 := by unfold thW; rw [if_neg (by decide)]
  have e1 : rdHi (magW m ws) 0 0 = 0 := by unfold rdHi; rw [hz, w1]
  have e2 : rdLo (magW m ws) 0 0 = 0 := by unfold rdLo; rw [w1, w2]
  have e3 : rdRest (magW m ws) 0 0 = false := by unfold rdRest; rw [w2]; rfl
  have hres : rsP n S = 0 := by unfold rsP; rw [if_pos hS0']
  rw [hres]
  have hcall := round_calls b m t ws (K1 + K2) 64 0
  rw [hi0, hz, e1, e2, e3, hneg] at hcall
  exact hcall a1 rfl _ 0 0 0 0 0 false false rfl a2 (by rw [← h4]; exact a3) W h hm2 hm16 hl hw
 ·
  obtain ⟨c1, c2, c3, c4, c5, c6, c7⟩ := handed hmw (by omega) hz
  rw [← t1] at c3 c4 c5
  have hpos : 0 < S.natAbs := by
   rcases Nat.eq_zero_or_pos S.natAbs with z | z
   ·
    rw [z] at c3
    have : blen 0 = 0 := rfl
    have := blen_pos (show 0 < thW (magW m ws) (topI (magW m ws) (m - 1)) 0 by omega)
    omega
   ·
    exact z
  have hb := tpM_bounds hpos
  have hbl : blen (tpM S.natAbs) = 128 := blen_unique hb.2 (Or.inr hb.1)
  generalize hi : topI (magW m ws) (m - 1) = i at *
  generalize hs : 64 - blen (thW (magW m ws) i 0) = s at *
  have hi15 : i ≤ 15 := by omega
  have hrest : rdRest (magW m ws) i s = true → 9223372036854775808 ≤ rdHi (magW m ws) i s := fun _ => by
   have h1 := hb.1
   rw [← c4, show (2 : Nat) ^ 127 = 170141183460469231731687303715884105728 by decide] at h1
   exact tw_top c7 h1
  have hM := Make_ev (neg := decide (S < 0)) (rest := rdRest (magW m ws) i s) (h := rdHi (magW m ws) i s) (l := rdLo (magW m ws) i s) (e := 64 * ((i : Int) - 1) - (s : Int) + 16 - 8 * (4 * (m : Int))) c6 c7 (by omega) (by omega) hrest
  have hne : tw (rdHi (magW m ws) i s) (rdLo (magW m ws) i s) ≠ 0 := by
   rw [c4]; intro z; rw [z] at hb; exact absurd hb.1 (by decide)
  rw [if_neg hne, c4, hbl] at hM
  have hnm2 : nmW (tpM S.natAbs) = tpM S.natAbs := by unfold nmW; rw [hbl, Nat.sub_self, Nat.pow_zero, Nat.mul_one]
  rw [hnm2, c5] at hM
  have hsc : 64 * ((i : Int) - 1) - (s : Int) + 16 - 8 * (4 * (m : Int)) + ((128 : Nat) : Int) - 1 = scU (16 - 8 * (n : Int)) S.natAbs := by
   unfold scU; rw [c3]; omega
  rw [hsc] at hM
  have hscr : -1099511627776 ≤ scU (16 - 8 * (n : Int)) S.natAbs ∧ scU (16 - 8 * (n : Int)) S.natAbs ≤ 1099511627776 := by unfold scU; rw [c3]; omega
  have e127 : (2 : Nat) ^ 127 = 170141183460469231731687303715884105728 := by decide
  have e128 : (2 : Nat) ^ 128 = 340282366920938463463374607431768211456 := by decide
  have hR := Round_made (neg := decide (S < 0)) (rest := tpR S.natAbs) hn hscr.1 hscr.2 (e127 ▸ hb.1) (e128 ▸ hb.2)
  obtain ⟨K1, hK1⟩ := Ev.both hLZ hM
  obtain ⟨K2, hK2⟩ := hR
  obtain ⟨a1, a2⟩ := hK1 (K1 + K2) (by omega)
  have a3 := hK2 (K1 + K2) (by omega)
  have hres : rsP n S = rdN n (decide (S < 0)) (scU (16 - 8 * (n : Int)) S.natAbs) (tpM S.natAbs) (tpR S.natAbs) := by unfold rsP; rw [if_neg (by omega)]
  rw [hres]
  have hcall := round_calls b m t ws (K1 + K2) s s
  rw [hi, hneg, c5] at hcall
  exact hcall a1 (by omega) _ _ _ _ _ _ _ _ rfl a2 (by rw [← h4]; exact a3) W h hm2 hm16 hl hw
end Go.Proofs.Ytgaaeehohhnocaa.M
