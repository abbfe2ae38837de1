/- For all numbers of 128 bits and any count: shifted up and down again it is the number, if nothing was lost; shifted down and up it is the number less what was lost. No conditions. -/
import Derived.Test.YtjbcfiigafbobaaF33
import Derived.Test.YtjbcfiigafbobaaTwinHL
namespace Go.Proofs.Ytjbcfiigafbobaa.Pure
open Go.RowKit Go.Proofs.YtjbcfiigafbobaaW.PrintWords Go.Proofs.YtjbcfiigafbobaaW.PrintLast Go.Proofs.YtjbcfiigafbobaaW.PrintMore Go.Proofs.Ytjbcfiigafbobaa.F Go.Proofs.Ytjbcfiigafbobaa.M
set_option linter.unusedVariables false
set_option linter.unusedSimpArgs false
theorem back1 {ah al : Nat} (h0 : ah < 18446744073709551616) (h1 : al < 18446744073709551616) (n : Nat) : Ev (fun k => vernierlaw02_TwinBack.j1 k (n : Int) false (ah : Int) (al : Int)) true := by
  refine Ev.step (fun k => by simp only [vernierlaw02_TwinBack.j1]; rfl) ?_
  have ha := tw_lt h0 h1
  have ea1 := hi_tw h0 h1
  have ea2 := lo_tw (h := ah) h1
  simp only [Bool.false_eq_true, ↓reduceIte, Shr_eq h0 h1 n, Option.bind_some]
  have hm : min n 128 ≤ 128 := Nat.min_le_right _ _
  have hdm := Nat.div_add_mod (tw ah al) (2 ^ min n 128)
  have hr : tw ah al % 2 ^ min n 128 < 2 ^ min n 128 := Nat.mod_lt _ (Nat.pow_pos (by decide))
  have hw : tw ah al / 2 ^ min n 128 ≤ tw ah al := Nat.div_le_self _ _
  refine Ev.bind (Shl_hl _ _) ?_
  rw [Nat.mod_eq_of_lt (show tw ah al / 2 ^ min n 128 < 340282366920938463463374607431768211456 from Nat.lt_of_le_of_lt hw ha)]
  have hs := Sub_hl (tw ah al) (tw ah al / 2 ^ min n 128 * 2 ^ min n 128)
  rw [Nat.mul_comm] at hdm
  generalize tw ah al / 2 ^ min n 128 * 2 ^ min n 128 = t at *
  generalize hrr : tw ah al % 2 ^ min n 128 = r at *
  rw [Nat.mod_eq_of_lt ha, Nat.mod_eq_of_lt (show t < 340282366920938463463374607431768211456 by omega)] at hs
  have k1 : hi (tw ah al + 340282366920938463463374607431768211456 - t) = hi r := hi_of (by omega)
  have k2 : lo (tw ah al + 340282366920938463463374607431768211456 - t) = lo r := lo_of (by omega)
  have k3 : decide (tw ah al < t) = false := decide_eq_false (by omega)
  have k4 : decide (340282366920938463463374607431768211456 ≤ t) = false := decide_eq_false (by omega)
  rw [k1, k2, k3, ea1, ea2] at hs
  have hz := Shr_hl r n
  rw [Nat.mod_eq_of_lt (show r < 340282366920938463463374607431768211456 by omega), Nat.div_eq_of_lt hr, Nat.mod_eq_of_lt hr] at hz
  have z1 : hi 0 = 0 := rfl
  have z2 : lo 0 = 0 := rfl
  simp only [hs, Option.bind_some, hz, k4, z1, z2, Option.isNone_none, Bool.false_eq_true, ↓reduceIte, beq_self_eq_true, Bool.and_self]
  have k5 : (decide (r ≠ 0) == (!(hi r == 0) || !(lo r == 0))) = true := by
    rw [beq_iff_eq, Bool.eq_iff_iff, decide_eq_true_eq, Bool.or_eq_true, Bool.not_eq_true', Bool.not_eq_true', beq_eq_false_iff_ne, beq_eq_false_iff_ne]
    unfold hi lo
    omega
  rw [k5]
  exact Ev.now _
theorem backz (x n : Nat) : ∃ d : Nat, twin_Shr.f (hi (x * 2 ^ min n 128)) (lo (x * 2 ^ min n 128)) (n : Int) = some (hi d, lo d, false, none) ∧ (x * 2 ^ min n 128 < 340282366920938463463374607431768211456 → d = x) := by
  have hm : min n 128 ≤ 128 := Nat.min_le_right _ _
  have hp : 0 < 2 ^ min n 128 := Nat.pow_pos (by decide)
  obtain ⟨q, hq⟩ := pow128_dvd hm
  have hz := Shr_hl (x * 2 ^ min n 128) n
  have hmod : x * 2 ^ min n 128 % 340282366920938463463374607431768211456 % 2 ^ min n 128 = 0 := by
    rw [hq, Nat.mod_mul_right_mod, Nat.mul_mod_left]
  rw [hmod, show decide ((0 : Nat) ≠ 0) = false from rfl] at hz
  refine ⟨_, hz, fun h => ?_⟩
  rw [Nat.mod_eq_of_lt h]; exact Nat.mul_div_cancel _ hp
theorem back {ah al : Nat} (h0 : ah < 18446744073709551616) (h1 : al < 18446744073709551616) (n : Nat) : Ev (fun k => vernierlaw02_TwinBack.j0 k (n : Int) true (ah : Int) (al : Int)) true := by
  refine Ev.step (fun k => by simp only [vernierlaw02_TwinBack.j0]; rfl) ?_
  have ea1 := hi_tw h0 h1
  have ea2 := lo_tw (h := ah) h1
  obtain ⟨d, hz, hd⟩ := backz (tw ah al) n
  have he := Shl_eq h0 h1 n
  generalize tw ah al * 2 ^ min n 128 = s at hz hd he
  generalize hb : decide (340282366920938463463374607431768211456 ≤ s) = b at he
  refine Ev.bind he ?_
  refine Ev.bindp hz ?_
  refine Ev.congr (fun k => if_pos trivial) (Ev.congr (fun k => if_pos rfl) (Ev.congr (fun k => if_pos rfl) (Ev.congr (fun k => if_neg (show ¬ (false = true) by decide)) ?_)))
  have hb1 := back1 h0 h1 n
  cases b with
  | true => exact Ev.congr (fun k => if_pos rfl) hb1
  | false =>
    have hq : (!(hi d == (ah : Int)) || (!(lo d == (al : Int)))) = false := by
      rw [hd (Nat.lt_of_not_le (of_decide_eq_false hb)), ea1, ea2]; simp
    rw [← hq] at hb1
    exact Ev.congr (fun k => if_neg (show ¬ (false = true) by decide)) hb1
theorem TwinBack : vernierlaw02_TwinBack.Pure := by
  intro a0 a1 k w0 w1 w2
  obtain ⟨ah, rfl, h0⟩ := word w0
  obtain ⟨al, rfl, h1⟩ := word w1
  have hk := wf_i64 w2
  refine Ev.rounds ?_
  simp only [vernierlaw02_TwinBack.f, up02, Option.bind_some]
  rcases Int.lt_or_le k 0 with h | h
  · refine Ev.congr (fun n => if_pos h) ?_
    have e : wrap64 (-(wrap64 (k + 1))) = ((-(k + 1)).toNat : Int) := by rw [w64 (x := k + 1) (by omega) (by omega), w64 (by omega) (by omega)]; omega
    rw [e]
    exact back h0 h1 _
  · obtain ⟨n, rfl⟩ := Int.eq_ofNat_of_zero_le h
    exact Ev.congr (fun n => if_neg (by omega)) (back h0 h1 n)
end Go.Proofs.Ytjbcfiigafbobaa.Pure
