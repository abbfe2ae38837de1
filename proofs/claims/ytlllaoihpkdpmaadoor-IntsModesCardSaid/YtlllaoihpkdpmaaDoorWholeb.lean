/- Whole numbers among patterns: which patterns are whole, what a pattern is rounded to by each mode; program and reference. -/
import Derived.Test.YtlllaoihpkdpmaaDoorF7b
import Derived.Test.YtlllaoihpkdpmaaDoorF16b
import Derived.Test.YtlllaoihpkdpmaaDoorF17b
import Derived.Test.YtlllaoihpkdpmaaDoorBackb
import Derived.Test.YtlllaoihpkdpmaaDoorTzsb
namespace Go.Proofs.YtlllaoihpkdpmaaDoor.M
open Go.RowKit Go.Proofs.YtlllaoihpkdpmaaDoorW.PrintWords Go.Proofs.YtlllaoihpkdpmaaDoorW.PrintLast Go.Proofs.YtlllaoihpkdpmaaDoorW.PrintMore Go.Proofs.YtlllaoihpkdpmaaDoor.F
set_option linter.unusedVariables false
set_option linter.unusedSimpArgs false
theorem IsWhole_start {n p : Nat} {r : Bool × Option Int} (h : Wd n) (hp : p < 18446744073709551616)
    (hr : Ev (fun k => if (meansT n p ()).1 = 2 then (some (false, some 9)) else (if (meansT n p ()).1 = 0 then (some (true, none)) else (if (meansT n p ()).2.2.1 ≥ 63 then (some (true, none)) else ((bits_TrailingZeros64.f (meansT n p ()).2.2.2.1).bind fun t => (some (decide (t ≥ (wrap64 (63 - (meansT n p ()).2.2.1))), none)))))) r) : Ev (fun k => ints_IsWhole.f k (n : Int) (p : Int)) r := by
  have hd := Decode_ev h hp
  have e : meansT n p (none : Option Int) = ((meansT n p ()).1, (meansT n p ()).2.1, (meansT n p ()).2.2.1, (meansT n p ()).2.2.2.1, none) := by unfold meansT; split <;> rfl
  rw [e] at hd
  unfold ints_IsWhole.f
  refine Ev.bind hd ?_
  simp only [Option.isNone_none, ↓reduceIte]
  exact hr
theorem IsWhole_nar {n p : Nat} (h : Wd n) (hp : p < 18446744073709551616) (hk : kindN n p = 2) : Ev (fun k => ints_IsWhole.f k (n : Int) (p : Int)) (false, some 9) := by
  refine IsWhole_start h hp ?_
  rw [means_other (by omega) ()]
  exact Ev.congr (fun k => if_pos hk) (Ev.now _)
theorem IsWhole_zero {n p : Nat} (h : Wd n) (hp : p < 18446744073709551616) (hk : kindN n p = 0) : Ev (fun k => ints_IsWhole.f k (n : Int) (p : Int)) (true, none) := by
  refine IsWhole_start h hp ?_
  rw [means_other (by omega) ()]
  exact Ev.congr (fun k => if_neg (by show ¬ kindN n p = 2; omega)) (Ev.congr (fun k => if_pos hk) (Ev.now _))
theorem IsWhole_real {n p : Nat} (h : Wd n) (hp : p < 18446744073709551616) (hk : kindN n p = 1) : Ev (fun k => ints_IsWhole.f k (n : Int) (p : Int)) (decide (lfR (scI (abN n p) (n - 1)) (mtN (abN n p) (n - 1)) = 0), none) := by
  have hs := sc_small (p := p) h
  have hf0 := mt_top (abN n p) (n - 1)
  have hf := mt_word (p := p) h
  refine IsWhole_start h hp ?_
  rw [means_real hk ()]
  generalize scI (abN n p) (n - 1) = sc at *
  generalize mtN (abN n p) (n - 1) = fr at *
  refine Ev.congr (fun k => if_neg (show ¬ (1 : Int) = 2 by decide)) (Ev.congr (fun k => if_neg (show ¬ (1 : Int) = 0 by decide)) ?_)
  by_cases c : sc ≥ 63
  · have : lfR sc fr = 0 := by unfold lfR; rw [if_pos (by omega)]
    rw [this]
    exact Ev.congr (fun k => if_pos c) (Ev.now _)
  · refine Ev.congr (fun k => if_neg c) (Ev.bindp (Trail64 (by omega) hf) ?_)
    have e1 : wrap64 (63 - sc) = ((63 - sc).toNat : Int) := by rw [w64 (by omega) (by omega)]; omega
    have e2 : decide (((tzN 64 fr : Nat) : Int) ≥ ((63 - sc).toNat : Int)) = decide (lfR sc fr = 0) := by
      rw [Bool.eq_iff_iff, decide_eq_true_eq, decide_eq_true_eq]
      unfold lfR
      rw [if_neg (by omega), ← tz_dvd (by omega) hf]
      omega
    show Ev (fun k => some (decide (((tzN 64 fr : Nat) : Int) ≥ wrap64 (63 - sc)), none)) _
    rw [e1, e2]
    exact Ev.now _
/-- The program's. -/
theorem Wholes_far {n p : Nat} {mode : Int} {neg : Bool} (hn : Wd n) (hp : p < 18446744073709551616) (h : Ev (fun k => ints_told.f k (n : Int) (p : Int) mode) (neg, true, 0, none)) : Ev (fun k => ints_Whole.f k (n : Int) (p : Int) mode) (((p % 2 ^ n : Nat) : Int), none) := by
  have g2 := hn.le
  have e : wrap64 (64 - (n : Int)) = ((64 - n : Nat) : Int) := by rw [w64 (by omega) (by omega)]; omega
  have hpp : 0 < 2 ^ (64 - n) := Nat.pow_pos (by decide)
  have e64 : 18446744073709551616 = 2 ^ n * 2 ^ (64 - n) := by rw [← Nat.pow_add, show n + (64 - n) = 64 by omega]
  unfold ints_Whole.f
  refine Ev.bind h ?_
  simp only [Option.isNone_none, ↓reduceIte, e]
  have e2 : shr .u64 (shl .u64 (p : Int) ((64 - n : Nat) : Int)) ((64 - n : Nat) : Int) = ((p % 2 ^ n : Nat) : Int) := by
    rw [shl_nat, shr_nat (Nat.mod_lt _ (by decide))]
    congr 1
    rw [e64, Nat.mul_mod_mul_right, Nat.mul_div_cancel _ hpp]
  rw [e2]
  exact Ev.congr (fun k => if_pos (by omega)) (Ev.now _)
theorem Wholes_err {a p mode e : Int} (h : Ev (fun k => ints_told.f k a p mode) (false, false, 0, some e)) : Ev (fun k => ints_Whole.f k a p mode) (0, some e) := by
  unfold ints_Whole.f; exact Ev.bind h (Ev.now _)
end Go.Proofs.YtlllaoihpkdpmaaDoor.M
