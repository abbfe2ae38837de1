/- The sixteenth layer: what is told of a pattern by a mode, and its reference; the numbers out of it. -/
import Derived.Test.YtlllaoihpkdpmaaDoorF7b
import Derived.Test.YtlllaoihpkdpmaaDoorF11b
import Derived.Test.YtlllaoihpkdpmaaDoorF16b
import Derived.Test.YtlllaoihpkdpmaaDoorInts1b
namespace Go.Proofs.YtlllaoihpkdpmaaDoor.M
open Go.RowKit Go.Proofs.YtlllaoihpkdpmaaDoorW.PrintWords Go.Proofs.YtlllaoihpkdpmaaDoorW.PrintLast Go.Proofs.YtlllaoihpkdpmaaDoorW.PrintMore Go.Proofs.YtlllaoihpkdpmaaDoor.F
set_option linter.unusedVariables false
set_option linter.unusedSimpArgs false
theorem told_start {n p : Nat} {mode : Int} {r : Bool × Bool × Int × Option Int} (h : Wd n) (hp : p < 18446744073709551616) (hm0 : 0 ≤ mode) (hm3 : mode ≤ 3)
    (hr : Ev (fun k => if (meansT n p ()).1 = 2 then (some (false, false, 0, some 9)) else if (meansT n p ()).1 = 0 then some (false, false, 0, none) else (ints_of.f k (meansT n p ()).1 (meansT n p ()).2.1 (meansT n p ()).2.2.1 (meansT n p ()).2.2.2.1 mode).bind fun bt => some (bt.1, bt.2.1, bt.2.2, none)) r) : Ev (fun k => ints_told.f k (n : Int) (p : Int) mode) r := by
  have hd := Decode_ev h hp
  unfold ints_told.f
  have e : meansT n p (none : Option Int) = ((meansT n p ()).1, (meansT n p ()).2.1, (meansT n p ()).2.2.1, (meansT n p ()).2.2.2.1, none) := by
    unfold meansT; split <;> rfl
  rw [e] at hd
  refine Ev.bind hd ?_
  simp only [Option.isNone_none, ↓reduceIte]
  refine Ev.congr (fun k => if_neg (by omega)) (Ev.step (fun k => ?_) hr)
  simp only [ints_told.j0]
  rw [if_neg (by rw [decide_eq_true_eq]; omega)]
theorem told_nar {n p : Nat} {mode : Int} (h : Wd n) (hp : p < 18446744073709551616) (hm0 : 0 ≤ mode) (hm3 : mode ≤ 3) (hk : kindN n p = 2) : Ev (fun k => ints_told.f k (n : Int) (p : Int) mode) (false, false, 0, some 9) := by
  refine told_start h hp hm0 hm3 ?_
  rw [means_other (by omega) ()]
  exact Ev.congr (fun k => if_pos hk) (Ev.now _)
theorem told_zero {n p : Nat} {mode : Int} (h : Wd n) (hp : p < 18446744073709551616) (hm0 : 0 ≤ mode) (hm3 : mode ≤ 3) (hk : kindN n p = 0) : Ev (fun k => ints_told.f k (n : Int) (p : Int) mode) (false, false, 0, none) := by
  refine told_start h hp hm0 hm3 ?_
  rw [means_other (by omega) ()]
  exact Ev.congr (fun k => if_neg (by show ¬ kindN n p = 2; omega)) (Ev.congr (fun k => if_pos hk) (Ev.now _))
theorem sc_small {n p : Nat} (h : Wd n) : -1000 ≤ scI (abN n p) (n - 1) ∧ scI (abN n p) (n - 1) ≤ 1000 := by
  obtain ⟨a, b⟩ := sc_bound (x := abN n p) (w := n - 1) (by have := h.le; omega)
  have c := exN_lt (abN n p) (n - 1)
  have hr := runN_le (abN n p) (n - 1)
  have hl := h.le
  unfold scI rgI at *
  split <;> omega
theorem mt_top (x w : Nat) : 9223372036854775808 ≤ mtN x w := by unfold mtN; omega
theorem told_real {n p : Nat} {mode : Int} (h : Wd n) (hp : p < 18446744073709551616) (hm0 : 0 ≤ mode) (hm3 : mode ≤ 3) (hk : kindN n p = 1) (hs : scI (abN n p) (n - 1) ≤ 63) :
    Ev (fun k => ints_told.f k (n : Int) (p : Int) mode) (topB p n && decide (0 < wM (topB p n) mode (scI (abN n p) (n - 1)) (mtN (abN n p) (n - 1))), false, (wM (topB p n) mode (scI (abN n p) (n - 1)) (mtN (abN n p) (n - 1)) : Int), none) := by
  refine told_start h hp hm0 hm3 ?_
  rw [means_real hk ()]
  refine Ev.congr (fun k => if_neg (show ¬ (1 : Int) = 2 by decide)) (Ev.congr (fun k => if_neg (show ¬ (1 : Int) = 0 by decide)) ?_)
  exact Ev.bind (of_ev (sc_small h).1 hs (mt_top _ _) (mt_word h) hm0 hm3) (Ev.now _)
theorem told_far {n p : Nat} {mode : Int} (h : Wd n) (hp : p < 18446744073709551616) (hm0 : 0 ≤ mode) (hm3 : mode ≤ 3) (hk : kindN n p = 1) (hs : 63 < scI (abN n p) (n - 1)) :
    Ev (fun k => ints_told.f k (n : Int) (p : Int) mode) (topB p n, true, 0, none) := by
  refine told_start h hp hm0 hm3 ?_
  rw [means_real hk ()]
  refine Ev.congr (fun k => if_neg (show ¬ (1 : Int) = 2 by decide)) (Ev.congr (fun k => if_neg (show ¬ (1 : Int) = 0 by decide)) ?_)
  exact Ev.bind (of_far hs) (Ev.now _)
theorem wM_word {neg : Bool} {mode sc : Int} {fr : Nat} (hs : sc ≤ 63) (hf : fr < 18446744073709551616) : wM neg mode sc fr < 18446744073709551616 := by
  by_cases h : sc = 63
  · have e1 : wlN sc fr = fr := by unfold wlN; rw [if_pos (by omega), show (sc - 63).toNat = 0 by omega, Nat.pow_zero, Nat.mul_one]
    have e2 : lfR sc fr = 0 := by unfold lfR; rw [if_pos (by omega)]
    have pu : 0 < unR sc := Nat.pow_pos (by decide)
    have e3 : awB neg mode sc fr = false := by
      unfold awB; rw [e2]
      split
      · exact decide_eq_false (by rintro (a | ⟨a, _⟩) <;> omega)
      · split
        · rfl
        · split <;> rfl
    unfold wM; rw [e3, if_neg (by decide), e1]; exact hf
  · have h2 : 2 ^ 1 ≤ 2 ^ (63 - sc).toNat := Nat.pow_le_pow_right (by decide) (by omega)
    have e1 : wlN sc fr = fr / 2 ^ (63 - sc).toNat := by unfold wlN; rw [if_neg (by omega)]
    have : fr / 2 ^ (63 - sc).toNat ≤ fr / 2 ^ 1 := Nat.div_le_div_left h2 (by decide)
    unfold wM; split <;> omega
end Go.Proofs.YtlllaoihpkdpmaaDoor.M
