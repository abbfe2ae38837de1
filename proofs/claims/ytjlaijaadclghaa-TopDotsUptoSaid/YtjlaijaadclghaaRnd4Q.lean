/- A number that is rounded lies between the .. -/
import Derived.Test.YtjlaijaadclghaaMonoQ
import Derived.Test.YtjlaijaadclghaaF6Q
import Derived.Test.YtjlaijaadclghaaOrd2Q
import Derived.Test.YtjlaijaadclghaaCod5Q
import Derived.Test.YtjlaijaadclghaaF9Q
import Derived.Test.YtjlaijaadclghaaF16Q
import Derived.Test.YtjlaijaadclghaaR02Q
namespace Go.Proofs.Ytjlaijaadclghaa.M
set_option linter.all false
def scU (U : Int) (V : Nat) : Int := (blen V : Int) - 1 + U
def tpM (V : Nat) : Nat := V * 2 ^ 128 / 2 ^ blen V
def tpR (V : Nat) : Bool := decide (V * 2 ^ 128 % 2 ^ blen V ≠ 0)
theorem tpM_bounds {V : Nat} (h : 0 < V) : 2 ^ 127 ≤ tpM V ∧ tpM V < 2 ^ 128 := by
 have h1 := blen_le h
 have h2 := lt_blen V
 have h3 := blen_pos h
 have hp : 0 < 2 ^ blen V := Nat.pow_pos (by decide)
 unfold tpM
 constructor
 ·
  rw [Nat.le_div_iff_mul_le hp, ← Nat.pow_add, show 127 + blen V = (blen V - 1) + 128 by omega, Nat.pow_add]
  exact Nat.mul_le_mul_right _ h1
 ·
  rw [Nat.div_lt_iff_lt_mul hp, Nat.mul_comm]
  exact (Nat.mul_lt_mul_left (Nat.pow_pos (by decide))).mpr h2
theorem tp_split (V : Nat) : V * 2 ^ 128 = tpM V * 2 ^ blen V + V * 2 ^ 128 % 2 ^ blen V := by
 unfold tpM
 rw [Nat.mul_comm (V * 2 ^ 128 / 2 ^ blen V)]
 exact (Nat.div_add_mod _ _).symm
theorem m127 {M : Nat} (h : 2 ^ 127 ≤ M ∧ M < 2 ^ 128) : M % 2 ^ 127 = M - 2 ^ 127 := by
 have e : (2 : Nat) ^ 128 = 2 * 2 ^ 127 := by decide
 rw [e] at h
 generalize (2 : Nat) ^ 127 = p at *
 rw [Nat.mod_eq_sub_mod h.1, Nat.mod_eq_of_lt (by omega)]
theorem lt_top {U : Int} {V T : Nat} (hV : 0 < V) (hT : 0 < T) (hr : tpR T = false) (h : V < T) : scU U V < scU U T ∨ (scU U V = scU U T ∧ tpM V % 2 ^ 127 < tpM T % 2 ^ 127) := by
 have hb := blen_mono (Nat.le_of_lt h)
 rcases Nat.lt_or_ge (blen V) (blen T) with c | c
 ·
  left; unfold scU; omega
 ·
  right
  have e : blen V = blen T := by omega
  refine ⟨by unfold scU; rw [e], ?_⟩
  have hs := tp_split V
  have ht := tp_split T
  have hr0 : T * 2 ^ 128 % 2 ^ blen T = 0 := by unfold tpR at hr; simpa using hr
  rw [hr0, Nat.add_zero] at ht
  rw [m127 (tpM_bounds hV), m127 (tpM_bounds hT)]
  have b1 := (tpM_bounds hV).1
  have b2 := (tpM_bounds hT).1
  have hlt : V * 2 ^ 128 < T * 2 ^ 128 := (Nat.mul_lt_mul_right (Nat.pow_pos (by decide))).mpr h
  have : tpM V < tpM T := by
   rcases Nat.lt_or_ge (tpM V) (tpM T) with d | d
   ·
    exact d
   ·
    exfalso
    have := Nat.mul_le_mul_right (2 ^ blen T) d
    rw [e] at hs
    rw [hs, ht] at hlt
    omega
  omega
theorem gt_top {U : Int} {V T : Nat} (hV : 0 < V) (hT : 0 < T) (hr : tpR T = false) (h : T < V) : scU U T < scU U V ∨ (scU U T = scU U V ∧ (tpM T % 2 ^ 127 < tpM V % 2 ^ 127 ∨ (tpM T = tpM V ∧ tpR V = true))) := by
 have hb := blen_mono (Nat.le_of_lt h)
 rcases Nat.lt_or_ge (blen T) (blen V) with c | c
 ·
  left; unfold scU; omega
 ·
  right
  have e : blen V = blen T := by omega
  refine ⟨by unfold scU; rw [e], ?_⟩
  have hs := tp_split V
  have ht := tp_split T
  have hr0 : T * 2 ^ 128 % 2 ^ blen T = 0 := by unfold tpR at hr; simpa using hr
  rw [hr0, Nat.add_zero] at ht
  rw [m127 (tpM_bounds hV), m127 (tpM_bounds hT)]
  have b1 := (tpM_bounds hV).1
  have b2 := (tpM_bounds hT).1
  have hlt : T * 2 ^ 128 < V * 2 ^ 128 := (Nat.mul_lt_mul_right (Nat.pow_pos (by decide))).mpr h
  have hm : V * 2 ^ 128 % 2 ^ blen V < 2 ^ blen V := Nat.mod_lt _ (Nat.pow_pos (by decide))
  rcases Nat.lt_trichotomy (tpM T) (tpM V) with d | d | d
  ·
   left; omega
  ·
   right
   refine ⟨d, ?_⟩
   unfold tpR
   rw [decide_eq_true_eq]
   intro h0
   rw [h0, Nat.add_zero, e, ← d, ← ht] at hs
   omega
  ·
   exfalso
   have := Nat.mul_le_mul_right (2 ^ blen T) (Nat.succ_le_of_lt d)
   rw [Nat.succ_mul] at this
   rw [e] at hs hm
   rw [hs, ht] at hlt
   omega
theorem half_div {n q : Nat} (hn : Wd n) : (2 * q + 1) * 2 ^ (256 - n) / 2 ^ (257 - n) = q ∧ (2 * q + 1) * 2 ^ (256 - n) % 2 ^ (257 - n) = 2 ^ (256 - n) := by
 have h := pw_half hn
 have hp : 0 < 2 ^ (256 - n) := Nat.pow_pos (by decide)
 generalize 2 ^ (257 - n) = B at *
 generalize 2 ^ (256 - n) = A at *
 subst h
 have e : (2 * q + 1) * A = (2 * A) * q + A := by grind
 rw [e, Nat.mul_add_div (by omega), Nat.mul_add_mod, Nat.div_eq_of_lt (by omega), Nat.mod_eq_of_lt (by omega)]
 exact ⟨rfl, rfl⟩
structure TieS (n : Nat) (U : Int) (q T : Nat) : Prop where
 pos : 0 < T
 none : tpR T = false
 lo : -((4 * n - 8 : Nat) : Int) ≤ scU U T
 hi : scU U T < ((4 * n - 8 : Nat) : Int)
 y : yN (scU U T) (tpM T) = (2 * q + 1) * 2 ^ (256 - n)
theorem near_up {n q V T : Nat} {U : Int} (hn : Wd n) (hV : 0 < V) (hq : q < 2 ^ (n - 1) - 1) (hr : rdP n (scU U V) (tpM V) (tpR V) = q) (t : TieS n U q T) : V < T ∨ (V = T ∧ q % 2 = 0) := by
 have g1 := hn.ge
 have g2 := hn.le
 obtain ⟨tp, tn, tl, th, ty⟩ := t
 obtain ⟨d1, d2⟩ := half_div (q := q) hn
 have hp : 0 < 2 ^ (257 - n) := Nat.pow_pos (by decide)
 rcases Nat.lt_trichotomy V T with c | c | c
 ·
  exact Or.inl c
 ·
  right
  refine ⟨c, ?_⟩
  subst c
  rw [rdP_mid hn tl th, ty, tn] at hr
  rcases Nat.mod_two_eq_zero_or_one q with e | e
  ·
   exact e
  ·
   exfalso
   have hu : upN n ((2 * q + 1) * 2 ^ (256 - n)) false := Or.inr ⟨d2, Or.inr (by rw [d1]; exact e)⟩
   rw [rh_up hu, d1] at hr
   omega
 ·
  exfalso
  have hc := gt_top (U := U) hV tp tn c
  by_cases hs : ((4 * n - 8 : Nat) : Int) ≤ scU U V
  ·
   rw [rdP_high hn hs] at hr; omega
  ·
   have hlo : -((4 * n - 8 : Nat) : Int) ≤ scU U V := by rcases hc with hc | ⟨hc, _⟩ <;> omega
   rw [rdP_mid hn hlo (by omega)] at hr
   have hY : (2 * q + 1) * 2 ^ (256 - n) < yN (scU U V) (tpM V) ∨ ((2 * q + 1) * 2 ^ (256 - n) = yN (scU U V) (tpM V) ∧ tpR V = true) := by
    rw [← ty]
    rcases hc with hc | ⟨hc, hc2 | ⟨hc2, hc3⟩⟩
    ·
     exact Or.inl (y_lt_of_sc _ _ hc (by omega) (by omega))
    ·
     left; rw [hc]; exact y_lt_of_m hc2 (by omega) (by omega)
    ·
     right; rw [hc, hc2]; exact ⟨rfl, hc3⟩
   generalize yN (scU U V) (tpM V) = Y at *
   rcases hY with hY | ⟨hY, hR⟩
   ·
    have h1 := Nat.div_le_div_right (c := 2 ^ (257 - n)) (Nat.le_of_lt hY)
    rw [d1] at h1
    have h2 := rh_ge n Y (tpR V)
    have e : Y / 2 ^ (257 - n) = q := by omega
    have hu : upN n Y (tpR V) := by
     left
     have e1 := Nat.div_add_mod Y (2 ^ (257 - n))
     have e2 := Nat.div_add_mod ((2 * q + 1) * 2 ^ (256 - n)) (2 ^ (257 - n))
     rw [d1, d2] at e2
     rw [e] at e1
     omega
    rw [rh_up hu] at hr
    omega
   ·
    rw [← hY] at hr
    have hu : upN n ((2 * q + 1) * 2 ^ (256 - n)) (tpR V) := Or.inr ⟨d2, Or.inl hR⟩
    rw [rh_up hu, d1] at hr
    omega
theorem near_low {n q V T : Nat} {U : Int} (hn : Wd n) (hV : 0 < V) (hq : 1 < q) (hr : rdP n (scU U V) (tpM V) (tpR V) = q) (t : TieS n U (q - 1) T) : T < V ∨ (V = T ∧ q % 2 = 0) := by
 have g1 := hn.ge
 have g2 := hn.le
 obtain ⟨tp, tn, tl, th, ty⟩ := t
 obtain ⟨d1, d2⟩ := half_div (q := q - 1) hn
 have hp : 0 < 2 ^ (257 - n) := Nat.pow_pos (by decide)
 rcases Nat.lt_trichotomy T V with c | c | c
 ·
  exact Or.inl c
 ·
  right
  refine ⟨c.symm, ?_⟩
  subst c
  rw [rdP_mid hn tl th, ty, tn] at hr
  rcases Nat.mod_two_eq_zero_or_one (q - 1) with e | e
  ·
   exfalso
   have hu : ¬ upN n ((2 * (q - 1) + 1) * 2 ^ (256 - n)) false := by
    unfold upN
    rw [d1, d2]
    rintro (a | ⟨_, a | a⟩)
    ·
     omega
    ·
     cases a
    ·
     omega
   rw [rh_down hu, d1] at hr
   omega
  ·
   omega
 ·
  exfalso
  have hc := lt_top (U := U) hV tp tn c
  have hhi : scU U V < ((4 * n - 8 : Nat) : Int) := by rcases hc with hc | ⟨hc, _⟩ <;> omega
  by_cases hs : scU U V < -((4 * n - 8 : Nat) : Int)
  ·
   rw [rdP_low hn hs] at hr; omega
  ·
   rw [rdP_mid hn (by omega) hhi] at hr
   have hY : yN (scU U V) (tpM V) < (2 * (q - 1) + 1) * 2 ^ (256 - n) := by
    rw [← ty]
    rcases hc with hc | ⟨hc, hc2⟩
    ·
     exact y_lt_of_sc _ _ hc (by omega) (by omega)
    ·
     rw [hc]; exact y_lt_of_m hc2 (by omega) (by omega)
   generalize yN (scU U V) (tpM V) = Y at *
   have h1 := Nat.div_le_div_right (c := 2 ^ (257 - n)) (Nat.le_of_lt hY)
   rw [d1] at h1
   have h2 := rh_le n Y (tpR V)
   have e : Y / 2 ^ (257 - n) = q - 1 := by omega
   have hu : ¬ upN n Y (tpR V) := by
    have e1 := Nat.div_add_mod Y (2 ^ (257 - n))
    have e2 := Nat.div_add_mod ((2 * (q - 1) + 1) * 2 ^ (256 - n)) (2 ^ (257 - n))
    rw [d1, d2] at e2
    rw [e] at e1
    unfold upN
    rintro (a | ⟨a, _⟩) <;> omega
   rw [rh_down hu] at hr
   omega
def tieM (n q : Nat) : Nat := 2 ^ fbN (2 * q + 1) n + frN (2 * q + 1) n
def tieE (n q : Nat) : Int := scI (2 * q + 1) n - (fbN (2 * q + 1) n : Int)
theorem blen_pow_mul {M k b : Nat} (h1 : 2 ^ b ≤ M) (h2 : M < 2 ^ (b + 1)) : blen (M * 2 ^ k) = b + 1 + k := by
 apply blen_unique
 ·
  rw [Nat.pow_add _ (b + 1) k]; exact (Nat.mul_lt_mul_right (Nat.pow_pos (by decide))).mpr h2
 ·
  right
  rw [show b + 1 + k - 1 = b + k by omega, Nat.pow_add]
  exact Nat.mul_le_mul_right _ h1
end Go.Proofs.Ytjlaijaadclghaa.M

namespace Go.Proofs.Ytjlaijaadclghaa.M
open RowKit YtjlaijaadclghaaW PrintWords PrintLast PrintMore F
set_option linter.all false
def nmW (v : Nat) : Nat := v * 2 ^ (128 - blen v)
theorem blen_le128 {v : Nat} (h : v < 340282366920938463463374607431768211456) : blen v ≤ 128 := blen_le_of (by rw [p128]; exact h)
theorem nm_bounds {v : Nat} (h0 : 0 < v) (h : v < 340282366920938463463374607431768211456) : 170141183460469231731687303715884105728 ≤ nmW v ∧ nmW v < 340282366920938463463374607431768211456 := by
 have h1 := blen_le h0
 have h2 := lt_blen v
 have h3 := blen_pos h0
 have h4 := blen_le128 h
 have hp : 0 < 2 ^ (128 - blen v) := Nat.pow_pos (by decide)
 unfold nmW
 constructor
 ·
  rw [show (170141183460469231731687303715884105728 : Nat) = 2 ^ (blen v - 1) * 2 ^ (128 - blen v) by rw [← Nat.pow_add, show blen v - 1 + (128 - blen v) = 127 by omega]]
  exact Nat.mul_le_mul_right _ h1
 ·
  rw [show (340282366920938463463374607431768211456 : Nat) = 2 ^ blen v * 2 ^ (128 - blen v) by rw [← Nat.pow_add, show blen v + (128 - blen v) = 128 by omega]]
  exact (Nat.mul_lt_mul_right hp).mpr h2
theorem held_in {a : Int} (h0 : -1099511627776 ≤ a) (h1 : a ≤ 1099511627776) : round_held.f a = some a := by rw [held_eq, if_neg (by omega), if_neg (by omega)]
theorem hi_top {s : Nat} (h0 : 170141183460469231731687303715884105728 ≤ s) (h1 : s < 340282366920938463463374607431768211456) : 9223372036854775808 ≤ s / 18446744073709551616 % 18446744073709551616 := by omega
theorem Make_ev {neg rest : Bool} {h l : Nat} {e : Int} (hh : h < 18446744073709551616) (hl : l < 18446744073709551616) (h0 : -549755813888 ≤ e) (h1 : e ≤ 549755813888) (hr : rest = true → 9223372036854775808 ≤ h) :
  Ev (fun k => round_Make.f k neg (h : Int) (l : Int) e rest) (if tw h l = 0 then (0, false, 0, 0, 0, false, none) else (1, neg, e + (blen (tw h l) : Int) - 1, hi (nmW (tw h l)), lo (nmW (tw h l)), rest, none)) := by
 have hb := blen128 hh hl
 have hN := Norm_eq hh hl
 have hj : Ev (fun k => round_Make.j0 k neg (h : Int) (l : Int) e rest false) (if tw h l = 0 then (0, false, 0, 0, 0, false, none) else (1, neg, e + (blen (tw h l) : Int) - 1, hi (nmW (tw h l)), lo (nmW (tw h l)), rest, none)) := by
  refine Ev.step (fun k => by simp only [round_Make.j0]; rw [if_neg (by decide)]) (Ev.bind hN ?_)
  by_cases hz : tw h l = 0
  ·
   rw [if_pos hz, if_pos hz]
   exact Ev.congr (fun k => if_pos (by rfl)) (Ev.now _)
  ·
   rw [if_neg hz, if_neg hz]
   have hnm := nm_bounds (v := tw h l) (by omega) (tw_lt hh hl)
   have hne : ¬ ((hi (nmW (tw h l)) == 0 && (lo (nmW (tw h l)) == 0)) = true) := by
    rw [Bool.and_eq_true, beq_iff_eq, beq_iff_eq]
    unfold hi lo
    omega
   refine Ev.congr (fun k => if_neg hne) ?_
   have e1 : wrap64 (mx (-4398046511104) (mn e 4398046511104) + 127 - ((128 - blen (tw h l) : Nat) : Int)) = e + (blen (tw h l) : Int) - 1 := by
    have : mx (-4398046511104) (mn e 4398046511104) = e := by unfold mx mn; split <;> split <;> omega
    rw [this, w64 (by omega) (by omega)]; omega
   refine Ev.bindp (a := e + (blen (tw h l) : Int) - 1) ?_ (Ev.now _)
   rw [e1]
   exact held_in (by omega) (by omega)
 unfold round_Make.f
 cases rest
 ·
  exact Ev.congr (fun k => if_neg (by decide)) hj
 ·
  refine Ev.congr (fun k => if_pos rfl) ?_
  have hb2 : (((h : Int) / 9223372036854775808) == 0) = false := by rw [beq_eq_false_iff_ne]; have := hr rfl; omega
  rw [hb2]; exact hj
theorem Round_made {n : Nat} {neg rest : Bool} {sc : Int} {s : Nat} (hn : Wd n) (h0 : -1099511627776 ≤ sc) (h1 : sc ≤ 1099511627776) (hs0 : 170141183460469231731687303715884105728 ≤ s) (hs1 : s < 340282366920938463463374607431768211456) :
  Ev (fun k => round_Round.f k (n : Int) 1 neg sc (hi s) (lo s) rest) (((rdN n neg sc s rest : Nat) : Int), none) := by
 have := Round_real (neg := neg) (rest := rest) hn h0 h1 (hi_top hs0 hs1) (show s / 18446744073709551616 % 18446744073709551616 < 18446744073709551616 by omega) (show s % 18446744073709551616 < 18446744073709551616 by omega)
 rw [tw_eq hs1] at this
 exact this
end Go.Proofs.Ytjlaijaadclghaa.M
