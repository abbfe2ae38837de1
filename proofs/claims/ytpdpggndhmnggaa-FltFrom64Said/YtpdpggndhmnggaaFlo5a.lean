/- The reference's Form.From. -/
import Derived.Test.YtpdpggndhmnggaaF15a
import Derived.Test.YtpdpggndhmnggaaF16a
import Derived.Test.YtpdpggndhmnggaaF17a
import Derived.Test.YtpdpggndhmnggaaF18a
import Derived.Test.YtpdpggndhmnggaaFlo4a
namespace Go.Proofs.Ytpdpggndhmnggaa.M
open Go.RowKit Go.Proofs.YtpdpggndhmnggaaW.PrintWords Go.Proofs.YtpdpggndhmnggaaW.PrintLast Go.Proofs.YtpdpggndhmnggaaW.PrintMore Go.Proofs.Ytpdpggndhmnggaa.F
set_option linter.unusedVariables false
set_option linter.unusedSimpArgs false
theorem two17_l0 (n : Nat) (hn : n ≤ 62) : ∀ (d i : Nat), n - i ≤ d → i ≤ n → Ev (fun k => vernierref17_two.l0 k (n : Int) ((2 ^ i : Nat) : Int) (i : Int)) ((2 ^ n : Nat) : Int) := by
  intro d
  induction d with
  | zero =>
    intro i hd hi
    obtain rfl : i = n := by omega
    refine Ev.step (f := fun k => some ((2 ^ i : Nat) : Int)) (fun k => ?_) (Ev.now _)
    simp only [vernierref17_two.l0]
    rw [if_neg (by omega)]
  | succ d ih =>
    intro i hd hi
    by_cases h : i < n
    · refine Ev.step (f := fun k => vernierref17_two.l0 k (n : Int) ((2 ^ (i + 1) : Nat) : Int) ((i + 1 : Nat) : Int)) (fun k => ?_) (ih (i + 1) (by omega) (by omega))
      simp only [vernierref17_two.l0]
      have hp : 2 ^ i < 2 ^ 62 := Nat.pow_lt_pow_right (by decide) (by omega)
      have e : IntKind.u64.wrap (2 * ((2 ^ i : Nat) : Int)) = ((2 ^ (i + 1) : Nat) : Int) := by
        rw [u64w, Nat.pow_succ]; omega
      rw [if_pos (by omega), e, w64 (by omega) (by omega)]
      rfl
    · exact ih i (by omega) hi
theorem two17_ev {n : Nat} (hn : n ≤ 62) : Ev (fun k => vernierref17_two.f k (n : Int)) ((2 ^ n : Nat) : Int) := two17_l0 n hn n 0 (by omega) (by omega)
theorem Round_exactly {n : Nat} {neg : Bool} {m : Nat} {e : Int} (hn : Wd n) (hm : m < 18446744073709551616) (h0 : -1000000 ≤ e) (h1 : e ≤ 1000000) :
    Ev (fun k => (vernierref07_Exactly.f k neg (digs m) e false).bind fun bt => (vernierref07_Round.f k (n : Int) bt.1 bt.2.1 bt.2.2.1 bt.2.2.2.1 bt.2.2.2.2.1 bt.2.2.2.2.2).bind fun t => some (t, (0 : Int))) (((rdV n neg e m : Nat) : Int), (0 : Int)) := by
  have hx := Exactly_ev (neg := neg) (rest := false) (m := m) (e := e) (by omega) (by omega) (by omega)
  refine Ev.bind hx ?_
  by_cases hz : m = 0
  · rw [if_pos hz]
    have e0 : rdV n neg e m = 0 := by unfold rdV; rw [if_pos hz]
    rw [e0]
    exact Ev.bind (Round07_zero hn) (Ev.now _)
  · rw [if_neg hz]
    have hb := blen_le128 (show m < 340282366920938463463374607431768211456 by omega)
    have hnm := nm_bounds (show 0 < m by omega) (show m < 340282366920938463463374607431768211456 by omega)
    have hr := Round07_made (neg := neg) (rest := false) (sc := e + (blen m : Int) - 1) hn (by omega) (by omega) hnm.1 hnm.2
    have e0 : rdV n neg e m = rdN n neg (e + (blen m : Int) - 1) (nmW m) false := by unfold rdV; rw [if_neg hz]
    rw [e0]
    exact Ev.bind hr (Ev.now _)
def eR (f r : Nat) (low : Int) : Int := if r < f then low else low + ((r / f - 1 : Nat) : Int)
theorem Form_no {a : Int} {x y b : Int} (h : a ≠ 8 ∧ a ≠ 16 ∧ a ≠ 32 ∧ a ≠ 64) : Ev (fun k => vernierref17_Form_From.f k x y a b) (0, 2) := by
  unfold vernierref17_Form_From.f
  rw [Is_no h]
  exact Ev.now _
theorem exps52 : vernierref17_Form_exps.f 52 (-1074) = some 2048 := by unfold vernierref17_Form_exps.f; rw [if_pos rfl]
theorem part_e {b : Nat} (hb : b < 18446744073709551616) : Int.tmod (IntKind.u64.wrap (Int.tdiv (b : Int) 4503599627370496)) 2048 = ((b / 4503599627370496 % 2048 : Nat) : Int) := by
  rw [tdiv_nn (by omega), u64s (by omega) (by omega), tmod_nn (by omega)]; omega
theorem part_m (b : Nat) : Int.tmod (b : Int) 4503599627370496 = ((b % 4503599627370496 : Nat) : Int) := by
  rw [tmod_nn (by omega)]; omega
theorem part_s {b : Nat} (hb : b < 18446744073709551616) : Int.tmod (IntKind.u64.wrap (Int.tdiv (IntKind.u64.wrap (Int.tdiv (b : Int) 4503599627370496)) 2048)) 2 = ((b / 9223372036854775808 : Nat) : Int) := by
  rw [tdiv_nn (x := (b : Int)) (by omega), u64s (x := (b : Int) / 4503599627370496) (by omega) (by omega), tdiv_nn (by omega), u64s (by omega) (by omega), tmod_nn (by omega)]; omega
theorem FormL {n b : Nat} (hn : Wd n) (hb : b < 18446744073709551616) : Ev (fun k => vernierref17_Form_From.f k 52 (-1074) (n : Int) (b : Int))
    (if b / 4503599627370496 % 2048 = 2047 then ((2 ^ (n - 1) : Nat) : Int) else ((rdV n (b / 9223372036854775808 == 1) (-1074 + ((b / 4503599627370496 % 2048 - 1 : Nat) : Int)) (if 0 < b / 4503599627370496 % 2048 then b % 4503599627370496 + 4503599627370496 else b % 4503599627370496) : Nat) : Int), 0) := by
  have hw : 1 ≤ n ∧ n ≤ 64 := by unfold Wd at hn; omega
  have he := part_e hb
  have hm := part_m b
  have hs := part_s hb
  have hsb : ((((b / 9223372036854775808 : Nat) : Int) == 1)) = (b / 9223372036854775808 == 1) := by
    rw [Bool.eq_iff_iff, beq_iff_eq, beq_iff_eq]; omega
  unfold vernierref17_Form_From.f
  refine Ev.bindp (Is_w hn) (Ev.congr (fun k => if_pos rfl) (Ev.bind (two17_ev (n := 52) (by decide)) ?_))
  rw [show ((2 ^ 52 : Nat) : Int) = 4503599627370496 from rfl]
  refine Ev.congr (fun k => if_neg (by decide)) (Ev.bindp exps52 (Ev.congr (fun k => if_neg (by decide)) (Ev.bindp exps52 (Ev.congr (fun k => if_neg (by decide)) (Ev.bindp exps52 ?_)))))
  rw [he, hm, hs, hsb, show IntKind.u64.wrap (2048 - 1) = 2047 by rw [u64w]; rfl]
  generalize hE : b / 4503599627370496 % 2048 = E at *
  generalize hM : b % 4503599627370496 = m at *
  by_cases c : E = 2047
  · rw [if_pos c]
    refine Ev.congr (fun k => if_pos (by rw [c]; rfl)) ?_
    rw [w64 (x := (n : Int) - 1) (by omega) (by omega), show (n : Int) - 1 = ((n - 1 : Nat) : Int) by omega]
    exact Ev.bind (Power_ev (by omega)) (Ev.now _)
  · rw [if_neg c]
    refine Ev.congr (fun k => if_neg (by omega)) ?_
    by_cases c0 : 0 < E
    · refine Ev.congr (fun k => if_pos (by omega)) ?_
      rw [if_pos c0]
      have e1 : IntKind.u64.wrap ((m : Int) + 4503599627370496) = ((m + 4503599627370496 : Nat) : Int) := by rw [u64s (by omega) (by omega)]; omega
      have e2 : wrap64 (-1074 + wrap64 (IntKind.u64.wrap ((E : Int) - 1))) = -1074 + ((E - 1 : Nat) : Int) := by
        rw [u64s (by omega) (by omega), w64 (x := (E : Int) - 1) (by omega) (by omega), w64 (by omega) (by omega)]; omega
      rw [e1, e2]
      exact Ev.bind (Of_ev (v := m + 4503599627370496) (by omega)) (Round_exactly (m := m + 4503599627370496) (neg := (b / 9223372036854775808 == 1)) (e := -1074 + ((E - 1 : Nat) : Int)) hn (by omega) (by omega) (by omega))
    · refine Ev.congr (fun k => if_neg (by omega)) ?_
      rw [if_neg c0]
      have e2 : wrap64 (-1074 + wrap64 (E : Int)) = -1074 + ((E - 1 : Nat) : Int) := by
        rw [w64 (x := (E : Int)) (by omega) (by omega), w64 (by omega) (by omega)]; omega
      rw [e2]
      exact Ev.bind (Of_ev (v := m) (by omega)) (Round_exactly (m := m) (neg := (b / 9223372036854775808 == 1)) (e := -1074 + ((E - 1 : Nat) : Int)) hn (by omega) (by omega) (by omega))
end Go.Proofs.Ytpdpggndhmnggaa.M
