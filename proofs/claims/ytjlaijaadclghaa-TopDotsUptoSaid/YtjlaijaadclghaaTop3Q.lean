/- The tie behind a pattern: what the law's tie .. -/
import Derived.Test.YtjlaijaadclghaaF13Q
import Derived.Test.YtjlaijaadclghaaF14Q
import Derived.Test.YtjlaijaadclghaaRnd4Q
import Derived.Test.YtjlaijaadclghaaTop2Q
import Derived.Test.YtjlaijaadclghaaCod5Q
namespace Go.Proofs.Ytjlaijaadclghaa.M
open RowKit YtjlaijaadclghaaW PrintWords PrintLast PrintMore F
set_option linter.all false
theorem small_len {m d B : Nat} (hB : Aside0 (B = 2 ^ 80)) (hm : (m + 1) * 2 ^ d ≤ B) : (digs m).length < 1000 ∧ (digs (m * 2 ^ 1)).length < 1000 := by
 rw [hB.out] at hm
 have hm1 : m + 1 ≤ 2 ^ 80 := Nat.le_trans (Nat.le_mul_of_pos_right _ (Nat.pow_pos (by decide))) hm
 have e80 : (2 : Nat) ^ 80 = 1208925819614629174706176 := by decide
 rw [e80] at hm1
 clear hm e80 hB
 have e6 : 16777216 ^ 6 = 22300745198530623141535718272648361505980416 := by decide
 exact ⟨len_le (n := 6) (by rw [e6]; omega) _ (by decide), len_le (n := 6) (by rw [e6]; omega) _ (by decide)⟩
theorem tie_l1 {x lf B : Nat} (hB : Aside0 (B = 2 ^ 80)) (hlf : lf ≤ 64) : ∀ (d i m : Nat) (e : Int), i + d = lf → 2 ≤ i → (m + 1) * 2 ^ d ≤ B → -4000 ≤ e - d → e ≤ 4000 → Ev (fun k => verniertop_tie.l1 k (txt x lf) e (digs m) (i : Int)) (false, digs (m * 2 ^ d + x % 2 ^ d), e - (d : Int)) := by
 intro d
 induction d with
 | zero =>
  intro i m e hi h2 hm h0 h1
  refine Ev.step (f := fun k => some (false, digs m, e)) (fun k => ?_) (Ev.use (Ev.now _) ?_)
  ·
   simp only [verniertop_tie.l1, txt_size]
   rw [if_neg (by omega)]
  ·
   rw [Nat.pow_zero, Nat.mul_one, Nat.mod_one, Nat.add_zero]; simp
 | succ d ih =>
  intro i m e hi h2 hm h0 h1
  have hp : 2 ^ (d + 1) = 2 * 2 ^ d := Nat.pow_succ'
  have hpd : 0 < 2 ^ d := Nat.pow_pos (by decide)
  obtain ⟨lm, lm2⟩ := small_len hB hm
  have hb := Nat.mod_two_eq_zero_or_one (x / 2 ^ d)
  have hmod : x % 2 ^ (d + 1) = x % 2 ^ d + 2 ^ d * (x / 2 ^ d % 2) := by rw [Nat.pow_succ, Nat.mod_mul]
  have hbit : bt (txt x lf) (i : Int) = ((48 + x / 2 ^ d % 2 : Nat) : Int) := by rw [txt_bt (show i < lf by omega), show lf - 1 - i = d by omega]
  have hS : Ev (fun n => vernierref04_Shl.f n (digs m) 1) (digs (m * 2 ^ 1)) := Shl_ev (k := 1) (by omega) (by decide)
  have we : wrap64 (e - 1) = e - 1 := w64 (by omega) (by omega)
  have wi : wrap64 ((i : Int) + 1) = ((i + 1 : Nat) : Int) := by rw [w64 (by omega) (by omega)]; omega
  have hilf : (i : Int) < (lf : Int) := by clear hmod hb hm; omega
  have c0 : ¬ (((48 + 0 : Nat) : Int) = 49) := by decide
  have c1 : (((48 + 1 : Nat) : Int) = 49) := by decide
  rcases hb with hb | hb
  ·
   have hn := ih (i + 1) (m * 2 ^ 1) (e - 1) (by omega) (Nat.le_succ_of_le h2) (by
    refine Nat.le_trans (Nat.mul_le_mul_right _ (by rw [Nat.pow_one, Nat.add_mul, Nat.one_mul]; exact Nat.add_le_add_left (by decide) _ : m * 2 ^ 1 + 1 ≤ (m + 1) * 2)) ?_
    rw [Nat.mul_assoc, ← hp]; exact hm) (by omega) (by omega)
   refine Ev.use (r := (false, digs (m * 2 ^ 1 * 2 ^ d + x % 2 ^ d), e - 1 - (d : Int))) ?_ ?_
   ·
    refine Ev.step (f := fun k => (vernierref04_Shl.f k (digs m) 1).bind fun t => verniertop_tie.l1 k (txt x lf) (e - 1) t ((i + 1 : Nat) : Int)) (fun k => ?_) (Ev.bind hS hn)
    simp only [verniertop_tie.l1, txt_size, hbit, hb, we, wi]
    rw [if_pos hilf]
    simp only [if_pos (Int.natCast_nonneg i), if_neg c0]
   ·
    have q1 : m * 2 ^ 1 * 2 ^ d + x % 2 ^ d = m * 2 ^ (d + 1) + x % 2 ^ (d + 1) := by
     rw [hmod, hb, hp, Nat.mul_zero, Nat.add_zero, Nat.pow_one, Nat.mul_assoc]
    have q2 : e - 1 - (d : Int) = e - ((d + 1 : Nat) : Int) := by omega
    rw [q1, q2]
  ·
   have hn := ih (i + 1) (m * 2 ^ 1 + 1) (e - 1) (by omega) (Nat.le_succ_of_le h2) (by
    refine Nat.le_trans (Nat.mul_le_mul_right _ (by rw [Nat.pow_one, Nat.add_mul, Nat.one_mul]; exact Nat.le_refl _ : m * 2 ^ 1 + 1 + 1 ≤ (m + 1) * 2)) ?_
    rw [Nat.mul_assoc, ← hp]; exact hm) (by omega) (by omega)
   have hA : Ev (fun n => vernierref04_Add.f n (digs (m * 2 ^ 1)) ([1] : List Int)) (digs (m * 2 ^ 1 + 1)) := Add_ev (y := 1) (by omega) (by decide)
   refine Ev.use (r := (false, digs ((m * 2 ^ 1 + 1) * 2 ^ d + x % 2 ^ d), e - 1 - (d : Int))) ?_ ?_
   ·
    refine Ev.step (f := fun k => (vernierref04_Shl.f k (digs m) 1).bind fun t => (vernierref04_Add.f k t ([1] : List Int)).bind fun s => verniertop_tie.l1 k (txt x lf) (e - 1) s ((i + 1 : Nat) : Int)) (fun k => ?_) (Ev.bind hS (Ev.bind hA hn))
    simp only [verniertop_tie.l1, txt_size, hbit, hb, we, wi]
    rw [if_pos hilf]
    simp only [if_pos (Int.natCast_nonneg i), if_pos c1]
   ·
    have q1 : (m * 2 ^ 1 + 1) * 2 ^ d + x % 2 ^ d = m * 2 ^ (d + 1) + x % 2 ^ (d + 1) := by
     rw [hmod, hb, hp, Nat.mul_one, Nat.pow_one, Nat.add_mul, Nat.one_mul, Nat.mul_assoc]
     omega
    have q2 : e - 1 - (d : Int) = e - ((d + 1 : Nat) : Int) := by omega
    rw [q1, q2]
theorem run_odd {x n : Nat} (hn : 2 ≤ n) (h3 : 3 ≤ x) (hx : x + 3 ≤ 2 ^ n) : runN x n + 2 ≤ n := by
 have hb := blen_left (x := x) (n := n) (by omega)
 have hlt : x % 2 ^ n = x := Nat.mod_eq_of_lt (by omega)
 have h2 : 2 ≤ left x n := by
  unfold left
  rw [hlt]
  split <;> omega
 have h3 : 2 ≤ blen (left x n) := by
  rcases Nat.lt_or_ge (blen (left x n)) 2 with c | c
  ·
   exfalso
   have h4 := lt_blen (left x n)
   have : 2 ^ blen (left x n) ≤ 2 ^ 1 := Nat.pow_le_pow_right (by decide) (by omega)
   omega
  ·
   exact c
 unfold runN
 omega
theorem ex_top {x w : Nat} : x * 2 ^ 2 / 2 ^ lfN x w % 2 ^ 2 = exN x w := by
 have hs := lf_split x w
 have heb := eb_le x w
 unfold exN eN
 by_cases h2 : ebN x w = 2
 ·
  rw [h2, hs, h2, Nat.pow_add, Nat.mul_div_mul_right _ _ (by decide), Nat.sub_self, Nat.pow_zero, Nat.mul_one]
 ·
  have hf : fbN x w = 0 := by unfold fbN ebN at *; omega
  rw [hs, hf, Nat.zero_add, Nat.pow_zero, Nat.div_one]
  rcases (show ebN x w = 0 ∨ ebN x w = 1 by omega) with e | e
  ·
   rw [e, Nat.pow_zero, Nat.div_one, Nat.mod_one, Nat.zero_mul, Nat.mul_mod_left]
  ·
   rw [e]; omega
theorem tie_ev {n q : Nat} (hn : Wd n) (hq0 : 1 ≤ q) (hq1 : q + 2 ≤ 2 ^ (n - 1)) : Ev (fun k => verniertop_tie.f k (n : Int) (q : Int)) (false, digs (tieM n q), tieE n q) := by
 have g1 := hn.ge
 have g2 := hn.le
 have hp : 2 ^ n = 2 * 2 ^ (n - 1) := by rw [← Nat.pow_succ']; congr 1; omega
 have hq64 : q < 18446744073709551616 := by
  have h63 : 2 ^ (n - 1) ≤ 2 ^ 63 := Nat.pow_le_pow_right (by decide) (by omega)
  rw [show (2 : Nat) ^ 63 = 9223372036854775808 by decide] at h63
  omega
 have hrun := run_odd (x := 2 * q + 1) (n := n) (by omega) (by omega) (by omega)
 have hlf : lfN (2 * q + 1) n = n - runN (2 * q + 1) n - 1 := rfl
 have hsp := lf_split (2 * q + 1) n
 have heb := eb_le (2 * q + 1) n
 have hr0 := runN_pos (x := 2 * q + 1) (n := n) (by omega)
 have hex := exN_lt (2 * q + 1) n
 have hfr := frN_lt (2 * q + 1) n
 have hst : txt q (n - 1) ++ (⟨#[49]⟩ : ByteArray) = txt (2 * q + 1) n := by
  rw [one1, txt_append, show n - 1 + 1 = n by omega, show q * 2 ^ 1 + 1 % 2 ^ 1 = 2 * q + 1 by omega]
 have hsc : scI (2 * q + 1) n = 4 * rgI (2 * q + 1) n + (exN (2 * q + 1) n : Int) := rfl
 have hrg : -64 ≤ rgI (2 * q + 1) n ∧ rgI (2 * q + 1) n ≤ 64 := by unfold rgI; split <;> omega
 have hT : Ev (fun k => vernierref01_Text.f k (q : Int) (wrap64 ((n : Int) - 1))) (txt q (n - 1)) := by
  rw [show wrap64 ((n : Int) - 1) = ((n - 1 : Nat) : Int) by rw [w64 (by omega) (by omega)]; omega]
  exact Text_ev (by omega) (by omega)
 clear hq64 hp
 generalize hx : 2 * q + 1 = x at *
 have hj3 : Ev (fun k => verniertop_tie.j3 k (rgI x n) (txt x (lfN x n))) (false, digs (2 ^ fbN x n + frN x n), scI x n - (fbN x n : Int)) := by
  have hN : Ev (fun k => vernierref01_Number.f k ((txt x (lfN x n) ++ (⟨#[48, 48]⟩ : ByteArray)).extract 0 2)) (exN x n : Int) := by
   rw [zeros2, txt_append, txt_extract _ _ _ _ (by omega) (by omega), Nat.zero_mod, Nat.add_zero, show lfN x n + 2 - 2 = lfN x n by omega]
   refine Ev.use (Number_ev' (by omega)) ?_
   rw [ex_top]
  have z2 : (txt x (lfN x n) ++ (⟨#[48, 48]⟩ : ByteArray)).size = lfN x n + 2 := by rw [ByteArray.size_append, txt_size]; rfl
  have we : wrap64 (wrap64 (4 * rgI x n) + wrap64 (exN x n : Int)) = scI x n := by rw [hsc, w64 (x := 4 * rgI x n) (by omega) (by omega), w64 (x := (exN x n : Int)) (by omega) (by omega), w64 (by omega) (by omega)]
  have hl : Ev (fun k => verniertop_tie.l1 k (txt x (lfN x n)) (scI x n) (digs 1) ((2 : Nat) : Int)) (false, digs (2 ^ fbN x n + frN x n), scI x n - (fbN x n : Int)) := by
   by_cases h2 : 2 ≤ lfN x n
   ·
    have hfb : 2 + fbN x n = lfN x n := by unfold fbN ebN; omega
    have := tie_l1 (x := x) (lf := lfN x n) (B := 2 ^ 80) ⟨rfl⟩ (by omega) (fbN x n) 2 1 (scI x n) hfb (by decide) (by
     rw [show (1 + 1) * 2 ^ fbN x n = 2 ^ (fbN x n + 1) by rw [Nat.pow_succ]; omega]
     exact Nat.pow_le_pow_right (by decide) (by omega)) (by omega) (by omega)
    rw [Nat.one_mul] at this
    exact this
   ·
    have hfb : fbN x n = 0 := by unfold fbN ebN; omega
    refine Ev.step (f := fun k => some (false, digs 1, scI x n)) (fun k => ?_) (Ev.use (Ev.now _) ?_)
    ·
     simp only [verniertop_tie.l1, txt_size]
     rw [if_neg (by omega)]
    ·
     have : frN x n = 0 := by rw [hfb, Nat.pow_zero] at hfr; omega
     rw [hfb, this]; simp
  refine Ev.step (f := fun k => (vernierref01_Number.f k ((txt x (lfN x n) ++ (⟨#[48, 48]⟩ : ByteArray)).extract 0 2)).bind fun t => verniertop_tie.l1 k (txt x (lfN x n)) (wrap64 (wrap64 (4 * rgI x n) + wrap64 t)) ([1] : List Int) 2) (fun k => ?_) (Ev.bind hN ?_)
  ·
   simp only [verniertop_tie.j3, txt_size]
   rw [if_pos (by omega), if_pos (by decide), if_pos (by rw [z2]; omega)]
  ·
   rw [we]; exact hl
 have hj2 : Ev (fun k => verniertop_tie.j2 k (txt x n) (runN x n : Int) (rgI x n)) (false, digs (2 ^ fbN x n + frN x n), scI x n - (fbN x n : Int)) := by
  refine Ev.step (fun k => ?_) hj3
  simp only [verniertop_tie.j2, txt_size]
  have e1 : wrap64 ((runN x n : Int) + 1) = ((runN x n + 1 : Nat) : Int) := by rw [w64 (by omega) (by omega)]; rfl
  have hrn : runN x n + 1 ≤ n := Nat.le_of_succ_le hrun
  have hle : ((runN x n + 1 : Nat) : Int) ≤ (n : Int) := Int.ofNat_le.mpr hrn
  have hlt : ((runN x n : Nat) : Int) < (n : Int) := Int.ofNat_lt.mpr hrn
  have hlf2 : n - (runN x n + 1) = lfN x n := by omega
  rw [if_pos hlt, e1, if_pos (Int.natCast_nonneg _), if_pos hle, Int.toNat_natCast, txt_extract _ _ _ _ hrn (Nat.le_refl _), Nat.sub_self, Nat.pow_zero, Nat.div_one, hlf2]
 have hj1 : Ev (fun k => verniertop_tie.j1 k (txt x n) (runN x n : Int)) (false, digs (2 ^ fbN x n + frN x n), scI x n - (fbN x n : Int)) := by
  refine Ev.step (fun k => ?_) hj2
  simp only [verniertop_tie.j1, txt_size]
  rw [if_pos (by omega)]
  by_cases ht : topB x n = true
  ·
   rw [if_pos ((top_bt (by omega)).mpr ht), w64 (by omega) (by omega)]
   unfold rgI
   rw [if_pos ht]
  ·
   rw [if_neg (fun hh => ht ((top_bt (by omega)).mp hh)), w64 (by omega) (by omega)]
   unfold rgI
   rw [if_neg ht]
 have hl0 : ∀ d i : Nat, runN x n - i ≤ d → i ≤ runN x n → Ev (fun k => verniertop_tie.l0 k (txt x n) (i : Int)) (false, digs (2 ^ fbN x n + frN x n), scI x n - (fbN x n : Int)) := by
  intro d
  induction d with
  | zero =>
   intro i hd hi
   obtain rfl : i = runN x n := by omega
   refine Ev.step (fun k => ?_) hj1
   simp only [verniertop_tie.l0, txt_size]
   have hs := run_stop (x := x) (n := n) (by omega) (by omega)
   rw [if_pos (by omega), if_pos (by omega), if_pos (by omega), txt_bt (by omega), bt_first (by omega), if_neg (by omega)]
  | succ d ih =>
   intro i hd hi
   by_cases hgo : i < runN x n
   ·
    have hs := run_same (show 0 < n by omega) hgo
    refine Ev.step (f := fun k => verniertop_tie.l0 k (txt x n) ((i + 1 : Nat) : Int)) (fun k => ?_) (ih (i + 1) (by omega) (by omega))
    simp only [verniertop_tie.l0, txt_size]
    rw [if_pos (by omega), if_pos (by omega), if_pos (by omega), txt_bt (show i < n by omega), bt_first (by omega), if_pos (by omega), w64 (by omega) (by omega)]
    rfl
   ·
    exact ih i (by omega) hi
 unfold tieM tieE
 rw [hx]
 unfold verniertop_tie.f
 refine Ev.bind hT (Ev.congr (fun k => if_pos (by rw [txt_size]; omega)) ?_)
 rw [hst]
 exact hl0 _ 0 (Nat.le_refl _) (by omega)
theorem fb_odd {x n : Nat} (h : runN x n + 2 ≤ n) : fbN x n ≤ n - 2 := by unfold fbN ebN lfN; omega
theorem tie_string {n q : Nat} {U : Int} (hn : Wd n) (hq0 : 1 ≤ q) (hq1 : q + 2 ≤ 2 ^ (n - 1)) (hU : U ≤ tieE n q) : TieS n U q (atU U (tieM n q) (tieE n q)) := by
 have g1 := hn.ge
 have g2 := hn.le
 have hp : 2 ^ n = 2 * 2 ^ (n - 1) := by rw [← Nat.pow_succ']; congr 1; omega
 have hrun := run_odd (x := 2 * q + 1) (n := n) (by omega) (by omega) (by omega)
 have hlf : lfN (2 * q + 1) n = n - runN (2 * q + 1) n - 1 := rfl
 have hsp := lf_split (2 * q + 1) n
 have heb := eb_le (2 * q + 1) n
 have hr0 := runN_pos (x := 2 * q + 1) (n := n) (by omega)
 have hex := exN_lt (2 * q + 1) n
 have hfr := frN_lt (2 * q + 1) n
 have hws := whole_split (x := 2 * q + 1) (w := n) (by omega)
 rw [Nat.mod_eq_of_lt (show 2 * q + 1 < 2 ^ n by omega)] at hws
 obtain ⟨d1, d2, d3, d4⟩ := scale_div (x := 2 * q + 1) (w := n) (by omega)
 have hsc : scI (2 * q + 1) n = 4 * rgI (2 * q + 1) n + (exN (2 * q + 1) n : Int) := rfl
 have hexd : exN (2 * q + 1) n = eN (2 * q + 1) n * 2 ^ (2 - ebN (2 * q + 1) n) := rfl
 have hz : ebN (2 * q + 1) n < 2 → fbN (2 * q + 1) n = 0 := by unfold fbN ebN; omega
 have hbase : baseN (2 * q + 1) n = hdN (topB (2 * q + 1) n) (runN (2 * q + 1) n) * 2 ^ lfN (2 * q + 1) n := by
  unfold baseN hdN
  by_cases t : topB (2 * q + 1) n = true
  ·
   rw [if_pos t, if_pos t, show n - runN (2 * q + 1) n = lfN (2 * q + 1) n + 1 by omega, Nat.pow_succ]
   grind
  ·
   rw [if_neg t, if_neg t, if_pos (by omega), Nat.one_mul]
   congr 1
   omega
 have hrange : -((4 * n - 8 : Nat) : Int) ≤ scI (2 * q + 1) n ∧ scI (2 * q + 1) n < ((4 * n - 8 : Nat) : Int) := by
  rw [hsc]; unfold rgI
  split <;> omega
 have hfb : fbN (2 * q + 1) n ≤ 62 := by omega
 unfold tieM tieE at *
 generalize hx : 2 * q + 1 = x at *
 have hM1 : 2 ^ fbN x n ≤ 2 ^ fbN x n + frN x n := Nat.le_add_right _ _
 have hM2 : 2 ^ fbN x n + frN x n < 2 ^ (fbN x n + 1) := by rw [Nat.pow_succ]; omega
 have hbl := blen_pow_mul (k := (scI x n - (fbN x n : Int) - U).toNat) hM1 hM2
 have hT : atU U (2 ^ fbN x n + frN x n) (scI x n - (fbN x n : Int)) = (2 ^ fbN x n + frN x n) * 2 ^ (scI x n - (fbN x n : Int) - U).toNat := rfl
 have hscU : scU U (atU U (2 ^ fbN x n + frN x n) (scI x n - (fbN x n : Int))) = scI x n := by
  unfold scU
  rw [hT, hbl]
  omega
 have hexact : (2 ^ fbN x n + frN x n) * 2 ^ (scI x n - (fbN x n : Int) - U).toNat * 2 ^ 128 = (2 ^ fbN x n + frN x n) * 2 ^ (127 - fbN x n) * 2 ^ (fbN x n + 1 + (scI x n - (fbN x n : Int) - U).toNat) := by
  rw [Nat.mul_assoc, Nat.mul_assoc, ← Nat.pow_add, ← Nat.pow_add]
  congr 2
  omega
 have hpp : 0 < 2 ^ (fbN x n + 1 + (scI x n - (fbN x n : Int) - U).toNat) := Nat.pow_pos (by decide)
 have htpM : tpM (atU U (2 ^ fbN x n + frN x n) (scI x n - (fbN x n : Int))) = (2 ^ fbN x n + frN x n) * 2 ^ (127 - fbN x n) := by
  unfold tpM
  rw [hT, hbl, hexact, Nat.mul_div_cancel _ hpp]
 refine ⟨?_, ?_, by rw [hscU]; exact hrange.1, by rw [hscU]; exact hrange.2, ?_⟩
 ·
  rw [hT]
  exact Nat.mul_pos (Nat.lt_of_lt_of_le (Nat.pow_pos (by decide)) hM1) (Nat.pow_pos (by decide))
 ·
  unfold tpR
  rw [hT, hbl, hexact, Nat.mul_mod_left]
  rfl
 ·
  rw [hscU, htpM, y_head (by omega) (by omega)]
  unfold hsN
  rw [d4, d3, d2, Int.toNat_natCast]
  have hm127 : (2 ^ fbN x n + frN x n) * 2 ^ (127 - fbN x n) % 2 ^ 127 = frN x n * 2 ^ (127 - fbN x n) := by
   have e : (2 : Nat) ^ 127 = 2 ^ fbN x n * 2 ^ (127 - fbN x n) := by rw [← Nat.pow_add, show fbN x n + (127 - fbN x n) = 127 by omega]
   rw [e, Nat.mul_mod_mul_right, Nat.add_mod_left, Nat.mod_eq_of_lt hfr]
  rw [hm127, hx]
  conv => rhs; rw [hws]
  rw [hbase, hexd]
  have p1 : 4 * 2 ^ (253 - runN x n) = 2 ^ lfN x n * 2 ^ (256 - n) := by
   rw [show (4 : Nat) = 2 ^ 2 from rfl, ← Nat.pow_add, ← Nat.pow_add]; congr 1; omega
  have p2 : 2 ^ (2 - ebN x n) * 2 ^ (253 - runN x n) = 2 ^ fbN x n * 2 ^ (256 - n) := by
   rw [← Nat.pow_add, ← Nat.pow_add]; congr 1; omega
  have p3 : frN x n * (2 ^ (127 - fbN x n) * 2 ^ (126 - runN x n)) = frN x n * 2 ^ (256 - n) := by
   rcases Nat.lt_or_ge (ebN x n) 2 with c | c
   ·
    have := hz c
    rw [this, Nat.pow_zero] at hfr
    rw [show frN x n = 0 by omega, Nat.zero_mul, Nat.zero_mul]
   ·
    rw [← Nat.pow_add]; congr 2; omega
  rw [Nat.add_mul, Nat.add_mul, Nat.add_mul, Nat.mul_assoc (hdN _ _), p1, Nat.mul_assoc (eN _ _), p2, Nat.mul_assoc (frN _ _), p3, ← Nat.mul_assoc, ← Nat.mul_assoc]
end Go.Proofs.Ytjlaijaadclghaa.M
