/- What the program's third layer computes: the root. -/
import Derived.Test.YtcnpnnodgfpheaaF3
import Derived.Test.YtcnpnnodgfpheaaF5
import Derived.Test.YtcnpnnodgfpheaaTwinHL
namespace Go.Proofs.Ytcnpnnodgfpheaa.M
open Go.RowKit Go.Proofs.YtcnpnnodgfpheaaW.PrintWords Go.Proofs.YtcnpnnodgfpheaaW.PrintLast Go.Proofs.YtcnpnnodgfpheaaW.PrintMore Go.Proofs.Ytcnpnnodgfpheaa.F
set_option linter.unusedVariables false
set_option linter.unusedSimpArgs false

theorem cmp_nn0 (x y : Nat) : (cmp x y ≤ 0) ↔ x ≤ y := by unfold cmp; split <;> (try split) <;> omega
/-- Bit for bit: the greatest number whose square is no greater. -/
def rt (v : Nat) : Nat → Nat → Nat
  | 0, s => s
  | n + 1, s => if (s + 2 ^ n) * (s + 2 ^ n) ≤ v then rt v n (s + 2 ^ n) else rt v n s
theorem rt_sq (v : Nat) : ∀ n s : Nat, s * s ≤ v → rt v n s * rt v n s ≤ v
  | 0, s, h => h
  | n + 1, s, h => by
    simp only [rt]
    split
    · rename_i g; exact rt_sq v n _ g
    · exact rt_sq v n s h
theorem rt_lt (v : Nat) : ∀ n s : Nat, s + 2 ^ n ≤ 18446744073709551616 → rt v n s < 18446744073709551616
  | 0, s, h => by simp only [rt]; rw [Nat.pow_zero] at h; omega
  | n + 1, s, h => by
    simp only [rt]
    rw [Nat.pow_succ] at h
    split
    · exact rt_lt v n _ (by omega)
    · exact rt_lt v n s (by omega)
theorem half_mod {s n : Nat} (h : s % 2 ^ (n + 1) = 0) : s % 2 ^ n = 0 := by
  have := Nat.mod_mul_right_mod s (2 ^ n) 2
  rw [← Nat.pow_succ, h, Nat.zero_mod] at this; exact this.symm
theorem Sub_le {h l t : Nat} (hh : h < 18446744073709551616) (hl : l < 18446744073709551616) (ht : t ≤ tw h l) : twin_Sub.f (h : Int) (l : Int) (hi t) (lo t) = some (hi (tw h l - t), lo (tw h l - t), false) := by
  have hv := tw_lt hh hl
  have e := Sub_eq hh hl (hl_lt t) (ll_lt t)
  rw [tw_hl, Nat.mod_eq_of_lt (show t < 340282366920938463463374607431768211456 by omega)] at e
  rw [show hi (tw h l + 340282366920938463463374607431768211456 - t) = hi (tw h l - t) from hi_of (by omega), show lo (tw h l + 340282366920938463463374607431768211456 - t) = lo (tw h l - t) from lo_of (by omega), show decide (tw h l < t) = false from decide_eq_false (by omega)] at e
  exact e
theorem Cmp_pr {h l t : Nat} (hh : h < 18446744073709551616) (hl : l < 18446744073709551616) (ht : t < 340282366920938463463374607431768211456) : twin_Cmp.f (hi t) (lo t) (h : Int) (l : Int) = some (cmp t (tw h l)) := by
  have e := Cmp_eq (hl_lt t) (ll_lt t) hh hl
  rw [tw_hl, Nat.mod_eq_of_lt ht] at e
  exact e
theorem sq_lt {c : Nat} (h : c < 18446744073709551616) : c * c < 340282366920938463463374607431768211456 := by
  exact Nat.lt_of_lt_of_le (Nat.mul_lt_mul'' h h) (by decide)
theorem Root_l0 {h l : Nat} (hh : h < 18446744073709551616) (hl : l < 18446744073709551616) : ∀ n s : Nat, n ≤ 64 → s + 2 ^ n ≤ 18446744073709551616 → s % 2 ^ n = 0 → s * s ≤ tw h l →
    Ev (fun k => part_Root.l0 k (s : Int) ((n : Int) - 1) (h : Int) (l : Int)) ((rt (tw h l) n s : Int), hi (tw h l - rt (tw h l) n s * rt (tw h l) n s), lo (tw h l - rt (tw h l) n s * rt (tw h l) n s))
  | 0, s, hn, hs, hm, hq => by
    rw [Nat.pow_zero] at hs
    simp only [rt]
    refine Ev.step (f := fun k => some ((s : Int), hi (tw h l - s * s), lo (tw h l - s * s))) (fun k => ?_) (Ev.now _)
    simp only [part_Root.l0]
    rw [if_neg (by omega), Mul_eq (by omega) (by omega)]
    rw [Option.bind_some, Sub_le hh hl hq, Option.bind_some]
  | n + 1, s, hn, hs, hm, hq => by
    have hp : 2 ^ n < 18446744073709551616 := Nat.lt_of_lt_of_le (Nat.pow_lt_pow_right (by decide) (show n < 64 by omega)) (by decide)
    have hs2 : s + 2 ^ n + 2 ^ n ≤ 18446744073709551616 := by rw [Nat.pow_succ] at hs; omega
    have hp0 : 0 < 2 ^ n := Nat.pow_pos (by decide)
    have hcl : s + 2 ^ n < 18446744073709551616 := by omega
    have e1 : shl .u64 1 ((n : Nat) : Int) = ((2 ^ n : Nat) : Int) := by
      have := shl_nat 1 n
      rw [Nat.one_mul, Nat.mod_eq_of_lt hp] at this; exact this
    have e2 : Go.bits .or .u64 (s : Int) ((2 ^ n : Nat) : Int) = ((s + 2 ^ n : Nat) : Int) := or_add (n := n + 1) (by omega) hn hm (Nat.pow_lt_pow_right (by decide) (by omega))
    have hm1 := half_mod hm
    have hm2 : (s + 2 ^ n) % 2 ^ n = 0 := by rw [Nat.add_mod_right]; exact hm1
    have e3 : ((n + 1 : Nat) : Int) - 1 = (n : Int) := by omega
    have ec := Cmp_pr hh hl (sq_lt hcl)
    refine Ev.step (f := fun k => if cmp ((s + 2 ^ n) * (s + 2 ^ n)) (tw h l) ≤ 0 then part_Root.l0 k ((s + 2 ^ n : Nat) : Int) ((n : Int) - 1) (h : Int) (l : Int) else part_Root.l0 k (s : Int) ((n : Int) - 1) (h : Int) (l : Int)) (fun k => ?_) ?_
    · simp only [part_Root.l0]
      rw [e3, if_pos (by omega), if_pos (by omega), e1, e2, Mul_eq hcl hcl, w64 (by omega) (by omega)]
      rw [Option.bind_some, ec, Option.bind_some]
    · simp only [rt]
      by_cases g : (s + 2 ^ n) * (s + 2 ^ n) ≤ tw h l
      · rw [if_pos g]
        exact Ev.congr (fun k => if_pos ((cmp_nn0 _ _).mpr g)) (Root_l0 hh hl n _ (by omega) hs2 hm2 g)
      · rw [if_neg g]
        exact Ev.congr (fun k => if_neg (fun g2 => g ((cmp_nn0 _ _).mp g2))) (Root_l0 hh hl n s (by omega) (by omega) hm1 hq)
theorem Root_ev {h l : Nat} (hh : h < 18446744073709551616) (hl : l < 18446744073709551616) : Ev (fun k => part_Root.f k (h : Int) (l : Int)) ((rt (tw h l) 64 0 : Int), hi (tw h l - rt (tw h l) 64 0 * rt (tw h l) 64 0), lo (tw h l - rt (tw h l) 64 0 * rt (tw h l) 64 0)) := by
  unfold part_Root.f
  exact Root_l0 hh hl 64 0 (by decide) (by decide) (by decide) (by omega)
theorem up03 : Ev (fun k => vernierlaw03_up.f k) true := by
  unfold vernierlaw03_up.f
  refine Ev.bind (a := (3, 1, none)) (Ev.congr (fun k => by unfold part_Div.f bits_Div64.f; rfl) (Ev.now _)) ?_
  have h := Root_ev (h := 0) (l := 15) (by decide) (by decide)
  have e : rt (tw 0 15) 64 0 = 3 := by decide
  rw [e] at h
  refine Ev.bind h ?_
  exact Ev.now _
end Go.Proofs.Ytcnpnnodgfpheaa.M
