/- The sixteenth layer: what is told of a pattern by a mode, and its reference; the numbers out of it. -/
import Derived.Test.YtlllaoihpkdpmaaDoorF7a
import Derived.Test.YtlllaoihpkdpmaaDoorF11a
import Derived.Test.YtlllaoihpkdpmaaDoorF16a
import Derived.Test.YtlllaoihpkdpmaaDoorInts1a
namespace Go.Proofs.YtlllaoihpkdpmaaDoor.M
open Go.RowKit Go.Proofs.YtlllaoihpkdpmaaDoorW.PrintWords Go.Proofs.YtlllaoihpkdpmaaDoorW.PrintLast Go.Proofs.YtlllaoihpkdpmaaDoorW.PrintMore Go.Proofs.YtlllaoihpkdpmaaDoor.F
set_option linter.unusedVariables false
set_option linter.unusedSimpArgs false
theorem told_no {a p mode : Int} (h : NoW a) : Ev (fun k => ints_told.f k a p mode) (false, false, 0, some 2) := by
  unfold ints_told.f; exact Ev.bind (Decode_no h) (Ev.now _)
theorem told_bad {n p : Nat} {mode : Int} (h : Wd n) (hp : p < 18446744073709551616) (hm : mode < 0 ∨ 3 < mode) : Ev (fun k => ints_told.f k (n : Int) (p : Int) mode) (false, false, 0, some 24) := by
  have hd := Decode_ev h hp
  unfold ints_told.f
  unfold meansT at hd
  by_cases hk : kindN n p = 1
  · rw [if_pos hk] at hd
    refine Ev.bind hd ?_
    simp only [Option.isNone_none, ↓reduceIte]
    by_cases h0 : mode < 0
    · refine Ev.congr (fun k => if_pos h0) (Ev.step (f := fun _ => some (false, false, 0, some 24)) (fun k => ?_) (Ev.now _))
      simp only [ints_told.j0]; rw [if_pos trivial]
    · refine Ev.congr (fun k => if_neg h0) (Ev.step (f := fun _ => some (false, false, 0, some 24)) (fun k => ?_) (Ev.now _))
      simp only [ints_told.j0]; rw [if_pos (by rw [decide_eq_true_eq]; omega)]
  · rw [if_neg hk] at hd
    refine Ev.bind hd ?_
    simp only [Option.isNone_none, ↓reduceIte]
    by_cases h0 : mode < 0
    · refine Ev.congr (fun k => if_pos h0) (Ev.step (f := fun _ => some (false, false, 0, some 24)) (fun k => ?_) (Ev.now _))
      simp only [ints_told.j0]; rw [if_pos trivial]
    · refine Ev.congr (fun k => if_neg h0) (Ev.step (f := fun _ => some (false, false, 0, some 24)) (fun k => ?_) (Ev.now _))
      simp only [ints_told.j0]; rw [if_pos (by rw [decide_eq_true_eq]; omega)]
theorem told_start {n p : Nat} {mode : Int} {r : Bool × Bool × Int × Option Int} (h : Wd n) (hp : p < 18446744073709551616) (hm0 : 0 ≤ mode) (hm3 : mode ≤ 3)
    (hr : Ev (fun k => if (meansT n p ()).1 = 2 then (some (false, false, 0, some 9)) else if (meansT n p ()).1 = 0 then some (false, false, 0, none) else (ints_of.f k (meansT n p ()).1 (meansT n p ()).2.1 (meansT n p ()).2.2.1 (meansT n p ()).2.2.2.1 mode).bind fun bt => some (bt.1, bt.2.1, bt.2.2, none)) r) : Ev (fun k => ints_told.f k (n : Int) (p : Int) mode) r := by
  have hd := Decode_ev h hp
  unfold ints_told.f
  have e : meansT n p (none : Option Int) = ((meansT n p ()).1, (meansT n p ()).2.1, (meansT n p ()).2.2.1, (meansT n p ()).2.2.2.1, none) := by
    unfold meansT; split <;> rfl
  rw [e] at hd
  refine Ev.bind hd ?_
  simp only [Option.isNone_none, ↓reduceIte]
  refine Ev.congr (fun k => if_neg (by omega)) (Ev.step (fun k => ?_) hr)
  simp only [ints_told.j0]
  rw [if_neg (by rw [decide_eq_true_eq]; omega)]
theorem told_nar {n p : Nat} {mode : Int} (h : Wd n) (hp : p < 18446744073709551616) (hm0 : 0 ≤ mode) (hm3 : mode ≤ 3) (hk : kindN n p = 2) : Ev (fun k => ints_told.f k (n : Int) (p : Int) mode) (false, false, 0, some 9) := by
  refine told_start h hp hm0 hm3 ?_
  rw [means_other (by omega) ()]
  exact Ev.congr (fun k => if_pos hk) (Ev.now _)
theorem told_zero {n p : Nat} {mode : Int} (h : Wd n) (hp : p < 18446744073709551616) (hm0 : 0 ≤ mode) (hm3 : mode ≤ 3) (hk : kindN n p = 0) : Ev (fun k => ints_told.f k (n : Int) (p : Int) mode) (false, false, 0, none) := by
  refine told_start h hp hm0 hm3 ?_
  rw [means_other (by omega) ()]
  exact Ev.congr (fun k => if_neg (by show ¬ kindN n p = 2; omega)) (Ev.congr (fun k => if_pos hk) (Ev.now _))
theorem sc_small {n p : Nat} (h : Wd n) : -1000 ≤ scI (abN n p) (n - 1) ∧ scI (abN n p) (n - 1) ≤ 1000 := by
  obtain ⟨a, b⟩ := sc_bound (x := abN n p) (w := n - 1) (by have := h.le; omega)
  have c := exN_lt (abN n p) (n - 1)
  have hr := runN_le (abN n p) (n - 1)
  have hl := h.le
  unfold scI rgI at *
  split <;> omega
theorem mt_top (x w : Nat) : 9223372036854775808 ≤ mtN x w := by unfold mtN; omega
theorem told_real {n p : Nat} {mode : Int} (h : Wd n) (hp : p < 18446744073709551616) (hm0 : 0 ≤ mode) (hm3 : mode ≤ 3) (hk : kindN n p = 1) (hs : scI (abN n p) (n - 1) ≤ 63) :
    Ev (fun k => ints_told.f k (n : Int) (p : Int) mode) (topB p n && decide (0 < wM (topB p n) mode (scI (abN n p) (n - 1)) (mtN (abN n p) (n - 1))), false, (wM (topB p n) mode (scI (abN n p) (n - 1)) (mtN (abN n p) (n - 1)) : Int), none) := by
  refine told_start h hp hm0 hm3 ?_
  rw [means_real hk ()]
  refine Ev.congr (fun k => if_neg (show ¬ (1 : Int) = 2 by decide)) (Ev.congr (fun k => if_neg (show ¬ (1 : Int) = 0 by decide)) ?_)
  exact Ev.bind (of_ev (sc_small h).1 hs (mt_top _ _) (mt_word h) hm0 hm3) (Ev.now _)
theorem told_far {n p : Nat} {mode : Int} (h : Wd n) (hp : p < 18446744073709551616) (hm0 : 0 ≤ mode) (hm3 : mode ≤ 3) (hk : kindN n p = 1) (hs : 63 < scI (abN n p) (n - 1)) :
    Ev (fun k => ints_told.f k (n : Int) (p : Int) mode) (topB p n, true, 0, none) := by
  refine told_start h hp hm0 hm3 ?_
  rw [means_real hk ()]
  refine Ev.congr (fun k => if_neg (show ¬ (1 : Int) = 2 by decide)) (Ev.congr (fun k => if_neg (show ¬ (1 : Int) = 0 by decide)) ?_)
  exact Ev.bind (of_far hs) (Ev.now _)
/-- The reference. -/
theorem pw_le {x n : Nat} (h : x ≤ 24 * n) : 2 ^ x ≤ 16777216 ^ n := by rw [← pow24]; exact Nat.pow_le_pow_right (by decide) h
theorem wl_big {sc : Int} {fr : Nat} (h1 : sc ≤ 1000) (hf : fr < 18446744073709551616) : wlN sc fr < 16777216 ^ 43 := by
  unfold wlN
  split
  · have h2 : 2 ^ (sc - 63).toNat ≤ 16777216 ^ 40 := pw_le (by omega)
    have h3 : fr * 2 ^ (sc - 63).toNat ≤ 18446744073709551616 * 16777216 ^ 40 := Nat.mul_le_mul (Nat.le_of_lt hf) h2
    refine Nat.lt_of_le_of_lt h3 (by decide +kernel)
  · refine Nat.lt_of_le_of_lt (Nat.div_le_self _ _) (Nat.lt_trans hf (by decide +kernel))
theorem dlen {v : Nat} (h : v < 16777216 ^ 44) : (digs v).length < 100 := by
  exact Nat.lt_of_le_of_lt (digs_length_le h) (by decide)
theorem dlenB {b : Nat} (h : b ≤ 1080) : (digs (2 ^ b)).length < 100 := Nat.lt_of_le_of_lt (digs_length_le (n := 46) (Nat.lt_of_le_of_lt (pw_le (n := 45) h) (by decide +kernel))) (by decide)
theorem dlen64 {v : Nat} (h : v < 18446744073709551616) : (digs v).length < 100 := dlen (Nat.lt_trans h (by decide +kernel))
theorem one_dg : ([1] : List Int) = digs 1 := by rw [digs_pos 1 (by decide)]; rfl
theorem parts_ev {kind sc : Int} {neg : Bool} {fr : Nat} (h0 : -1000 ≤ sc) (h1 : sc ≤ 1000) (hf0 : 9223372036854775808 ≤ fr) (hf : fr < 18446744073709551616) :
    Ev (fun k => vernierref16_parts.f k kind neg sc (fr : Int)) (digs (wlN sc fr), decide (0 < lfR sc fr), if 63 ≤ sc then -1 else cmp (2 * lfR sc fr) (unR sc)) := by
  have l0 := dlen64 hf
  unfold vernierref16_parts.f
  refine Ev.bind (Of_ev hf) ?_
  by_cases hs : 63 ≤ sc
  · refine Ev.congr (fun k => if_pos hs) ?_
    obtain ⟨b, hb⟩ : ∃ b : Nat, (b : Int) = sc - 63 := ⟨(sc - 63).toNat, by omega⟩
    have e1 : wrap64 (sc - 63) = (b : Int) := by rw [w64 (by omega) (by omega)]; omega
    rw [e1]
    refine Ev.bind (Shl_ev (by omega) (by omega)) ?_
    unfold wlN lfR
    rw [if_pos hs, if_pos hs, if_pos hs, show (sc - 63).toNat = b by omega]
    exact Ev.now _
  · refine Ev.congr (fun k => if_neg hs) ?_
    obtain ⟨b, hb⟩ : ∃ b : Nat, (b : Int) = 63 - sc := ⟨(63 - sc).toNat, by omega⟩
    have e1 : wrap64 (63 - sc) = (b : Int) := by rw [w64 (by omega) (by omega)]; omega
    have et : (63 - sc).toNat = b := by omega
    have pb : 0 < 2 ^ b := Nat.pow_pos (by decide)
    have hdm := Nat.div_add_mod fr (2 ^ b)
    have hq : fr / 2 ^ b * 2 ^ b ≤ fr := Nat.div_mul_le_self _ _
    have hlen : (digs (fr / 2 ^ b)).length < 100 := dlen64 (Nat.lt_of_le_of_lt (Nat.div_le_self _ _) hf)
    have esub : fr - fr / 2 ^ b * 2 ^ b = fr % 2 ^ b := by rw [Nat.mul_comm] at hq ⊢; omega
    have hm := Nat.mod_le fr (2 ^ b)
    have hlm : (digs (fr % 2 ^ b)).length < 100 := dlen64 (Nat.lt_of_le_of_lt hm hf)
    rw [e1, one_dg]
    refine Ev.bind (Shr_ev (x := fr) (by omega) (by omega)) (Ev.bind (Shl_ev (x := fr / 2 ^ b) (by omega) (by omega)) (Ev.bind (Sub_ev hq (by omega)) ?_))
    rw [esub]
    have hl1 : (digs 1).length < 100 := dlen64 (by decide)
    have hlu : (digs (1 * 2 ^ b)).length < 100 := by rw [Nat.one_mul]; exact dlenB (by omega)
    have hl2 : (digs (fr % 2 ^ b + fr % 2 ^ b)).length < 100 := by
      have : (digs (fr % 2 ^ b + fr % 2 ^ b)).length ≤ 3 := digs_length_le (by rw [show 16777216 ^ 3 = 4722366482869645213696 by decide]; omega)
      omega
    refine Ev.bind (Shl_ev (x := 1) (by omega) (by omega)) (Ev.bind (Add_ev (by omega) (by omega)) (Ev.bind (Cmp_ev (by omega) (by omega)) ?_))
    have eL : lfR sc fr = fr % 2 ^ b := by unfold lfR; rw [if_neg hs, et]
    have eW : wlN sc fr = fr / 2 ^ b := by unfold wlN; rw [if_neg hs, et]
    have eU : unR sc = 2 ^ b := by unfold unR; rw [et]
    have ed : decide (((digs (fr % 2 ^ b)).length : Int) > 0) = decide (0 < fr % 2 ^ b) := by
      rw [Bool.eq_iff_iff, decide_eq_true_eq, decide_eq_true_eq, ← digs_length_pos]; omega
    rw [if_neg hs, eL, eW, eU, ed, Nat.one_mul, Nat.two_mul]
    exact Ev.now _
theorem To_no {a p mode : Int} (h : NoW a) : Ev (fun k => vernierref16_To.f k a p mode) (false, [], 2) := by
  unfold vernierref16_To.f; rw [Is_no h]; exact Ev.now _
theorem To_bad {n : Nat} {p mode : Int} (h : Wd n) (hm : mode < 0 ∨ 3 < mode) : Ev (fun k => vernierref16_To.f k (n : Int) p mode) (false, [], 24) := by
  unfold vernierref16_To.f
  rw [Is_w h]
  simp only [Option.bind_some, ↓reduceIte]
  by_cases h0 : mode < 0
  · refine Ev.congr (fun k => if_pos h0) (Ev.step (f := fun _ => some (false, [], 24)) (fun k => ?_) (Ev.now _))
    simp only [vernierref16_To.j0]; rw [if_pos trivial]
  · refine Ev.congr (fun k => if_neg h0) (Ev.step (f := fun _ => some (false, [], 24)) (fun k => ?_) (Ev.now _))
    simp only [vernierref16_To.j0]; rw [if_pos (by rw [decide_eq_true_eq]; omega)]
theorem To_nar {n p : Nat} {mode : Int} (h : Wd n) (hp : p < 18446744073709551616) (hm0 : 0 ≤ mode) (hm3 : mode ≤ 3) (hk : kindN n p = 2) : Ev (fun k => vernierref16_To.f k (n : Int) (p : Int) mode) (false, [], 9) := by
  unfold vernierref16_To.f
  rw [Is_w h]
  simp only [Option.bind_some, ↓reduceIte]
  refine Ev.congr (fun k => if_neg (by omega)) (Ev.step (fun k => by simp only [vernierref16_To.j0]; rw [if_neg (by rw [decide_eq_true_eq]; omega)]) (Ev.bind (Decode06_ev h hp) ?_))
  rw [means_other (by omega) ()]
  exact Ev.congr (fun k => if_pos hk) (Ev.now _)
theorem To_zero {n p : Nat} {mode : Int} (h : Wd n) (hp : p < 18446744073709551616) (hm0 : 0 ≤ mode) (hm3 : mode ≤ 3) (hk : kindN n p = 0) : Ev (fun k => vernierref16_To.f k (n : Int) (p : Int) mode) (false, [], 0) := by
  unfold vernierref16_To.f
  rw [Is_w h]
  simp only [Option.bind_some, ↓reduceIte]
  refine Ev.congr (fun k => if_neg (by omega)) (Ev.step (fun k => by simp only [vernierref16_To.j0]; rw [if_neg (by rw [decide_eq_true_eq]; omega)]) (Ev.bind (Decode06_ev h hp) ?_))
  rw [means_other (by omega) ()]
  exact Ev.congr (fun k => if_neg (by show ¬ kindN n p = 2; omega)) (Ev.congr (fun k => if_pos hk) (Ev.now _))
theorem wM_big {neg : Bool} {mode sc : Int} {fr : Nat} (h1 : sc ≤ 1000) (hf : fr < 18446744073709551616) : wM neg mode sc fr < 16777216 ^ 44 := by
  have := wl_big h1 hf
  have h2 : (16777216 : Nat) ^ 43 < 16777216 ^ 44 := by decide +kernel
  unfold wM; split <;> omega
theorem To_end {neg : Bool} {w : Nat} (hw : w < 16777216 ^ 44) {r : Bool × List Int × Int} (hr : r = (neg && decide (0 < w), digs w, 0)) : (if neg = true then (some (decide (((digs w).length : Int) > 0), digs w, (0 : Int))) else (some (false, digs w, 0))) = some r := by
  have ed : decide (((digs w).length : Int) > 0) = decide (0 < w) := by
    rw [Bool.eq_iff_iff, decide_eq_true_eq, decide_eq_true_eq, ← digs_length_pos]; omega
  rw [hr, ed]
  cases neg <;> rfl
theorem To_real {n p : Nat} {mode : Int} (h : Wd n) (hp : p < 18446744073709551616) (hm0 : 0 ≤ mode) (hm3 : mode ≤ 3) (hk : kindN n p = 1) :
    Ev (fun k => vernierref16_To.f k (n : Int) (p : Int) mode) (topB p n && decide (0 < wM (topB p n) mode (scI (abN n p) (n - 1)) (mtN (abN n p) (n - 1))), digs (wM (topB p n) mode (scI (abN n p) (n - 1)) (mtN (abN n p) (n - 1))), 0) := by
  have hs := sc_small (p := p) h
  have hf0 := mt_top (abN n p) (n - 1)
  have hf := mt_word (p := p) h
  unfold vernierref16_To.f
  rw [Is_w h]
  simp only [Option.bind_some, ↓reduceIte]
  refine Ev.congr (fun k => if_neg (by omega)) (Ev.step (fun k => by simp only [vernierref16_To.j0]; rw [if_neg (by rw [decide_eq_true_eq]; omega)]) (Ev.bind (Decode06_ev h hp) ?_))
  rw [means_real hk ()]
  refine Ev.congr (fun k => if_neg (show ¬ (1 : Int) = 2 by decide)) (Ev.congr (fun k => if_neg (show ¬ (1 : Int) = 0 by decide)) ?_)
  refine Ev.bind (parts_ev hs.1 hs.2 hf0 hf) ?_
  generalize topB p n = neg
  generalize scI (abN n p) (n - 1) = sc at *
  generalize mtN (abN n p) (n - 1) = fr at *
  have hwl := wl_big hs.2 hf
  have hl := dlen (v := wlN sc fr) (Nat.lt_trans hwl (by decide +kernel))
  have hwm := wM_big (neg := neg) (mode := mode) hs.2 hf
  have hl1 : (digs 1).length < 100 := dlen64 (by decide)
  have hadd := Add_ev (x := wlN sc fr) (y := 1) (by omega) (by omega)
  rw [← one_dg] at hadd
  have hup : awB neg mode sc fr = true → Ev (fun k => (vernierref04_Add.f k (digs (wlN sc fr)) [1]).bind fun t => if neg = true then (some (decide ((t.length : Int) > 0), t, (0 : Int))) else (some (false, t, 0))) (neg && decide (0 < wM neg mode sc fr), digs (wM neg mode sc fr), 0) := by
    intro ha
    refine Ev.bind hadd ?_
    have e : wM neg mode sc fr = wlN sc fr + 1 := by unfold wM; rw [if_pos ha]
    rw [e] at hwm ⊢
    rw [To_end hwm rfl]
    exact Ev.now _
  have hdn : awB neg mode sc fr = false → Ev (fun k => if neg = true then (some (decide (((digs (wlN sc fr)).length : Int) > 0), digs (wlN sc fr), (0 : Int))) else (some (false, digs (wlN sc fr), 0))) (neg && decide (0 < wM neg mode sc fr), digs (wM neg mode sc fr), 0) := by
    intro ha
    have e : wM neg mode sc fr = wlN sc fr := by unfold wM; rw [if_neg (by rw [ha]; decide)]
    rw [e] at hwm ⊢
    rw [To_end hwm rfl]
    exact Ev.now _
  -- how twice the rest stands to one
  have hcmp : ((if 63 ≤ sc then -1 else cmp (2 * lfR sc fr) (unR sc)) > 0 ↔ unR sc < 2 * lfR sc fr) ∧ ((if 63 ≤ sc then -1 else cmp (2 * lfR sc fr) (unR sc)) = 0 ↔ unR sc = 2 * lfR sc fr) := by
    have pu : 0 < unR sc := Nat.pow_pos (by decide)
    by_cases c : 63 ≤ sc
    · rw [if_pos c]
      have : lfR sc fr = 0 := by unfold lfR; rw [if_pos c]
      rw [this]; omega
    · rw [if_neg c]; unfold cmp; split <;> (try split) <;> omega
  obtain ⟨hc1, hc2⟩ := hcmp
  generalize (if 63 ≤ sc then -1 else cmp (2 * lfR sc fr) (unR sc)) = hf2 at *
  by_cases m0 : mode = 0
  · refine Ev.congr (fun k => if_pos m0) ?_
    have hlow := Low_ev (x := wlN sc fr) (k := 1) (by omega) (by decide)
    rw [Nat.pow_one] at hlow
    refine Ev.bind hlow ?_
    have ea : awB neg mode sc fr = decide (unR sc < 2 * lfR sc fr ∨ (unR sc = 2 * lfR sc fr ∧ wlN sc fr % 2 = 1)) := by unfold awB; rw [if_pos m0]
    by_cases g1 : hf2 > 0
    · refine Ev.congr (fun k => if_pos g1) ?_
      exact hup (by rw [ea]; exact decide_eq_true (Or.inl (hc1.mp g1)))
    · refine Ev.congr (fun k => if_neg g1) ?_
      by_cases g2 : hf2 = 0
      · refine Ev.congr (fun k => if_pos g2) ?_
        by_cases g3 : wlN sc fr % 2 = 1
        · refine Ev.congr (fun k => if_pos (by rw [decide_eq_true_eq]; omega)) ?_
          exact hup (by rw [ea]; exact decide_eq_true (Or.inr ⟨hc2.mp g2, g3⟩))
        · refine Ev.congr (fun k => if_neg (by rw [decide_eq_true_eq]; omega)) ?_
          exact hdn (by rw [ea]; exact decide_eq_false (by rintro (a | ⟨_, a⟩); exact g1 (hc1.mpr a); exact g3 a))
      · refine Ev.congr (fun k => if_neg g2) ?_
        exact hdn (by rw [ea]; exact decide_eq_false (by rintro (a | ⟨a, _⟩); exact g1 (hc1.mpr a); exact g2 (hc2.mpr a)))
  · refine Ev.congr (fun k => if_neg m0) ?_
    by_cases m1 : mode = 1
    · refine Ev.congr (fun k => if_pos m1) ?_
      have ea : awB neg mode sc fr = (decide (0 < lfR sc fr) && neg) := by unfold awB; rw [if_neg m0, if_pos m1]
      by_cases g : 0 < lfR sc fr
      · refine Ev.congr (fun k => if_pos (decide_eq_true g)) ?_
        rw [decide_eq_true g, Bool.true_and] at ea
        cases neg
        · refine Ev.congr (fun k => if_neg (show ¬ (false = true) by decide)) ?_
          have hd := hdn ea
          simp only [Bool.false_eq_true, ↓reduceIte] at hd
          exact hd
        · refine Ev.congr (fun k => if_pos rfl) ?_
          have hu := hup ea
          simp only [↓reduceIte] at hu
          exact hu
      · refine Ev.congr (fun k => if_neg (by rw [decide_eq_true_eq]; exact g)) ?_
        exact hdn (by rw [ea, decide_eq_false g]; rfl)
    · refine Ev.congr (fun k => if_neg m1) ?_
      by_cases m2 : mode = 2
      · refine Ev.congr (fun k => if_pos m2) ?_
        have ea : awB neg mode sc fr = (decide (0 < lfR sc fr) && !neg) := by unfold awB; rw [if_neg m0, if_neg m1, if_pos m2]
        by_cases g : 0 < lfR sc fr
        · refine Ev.congr (fun k => if_pos (decide_eq_true g)) ?_
          rw [decide_eq_true g, Bool.true_and] at ea
          cases neg
          · refine Ev.congr (fun k => if_neg (show ¬ (false = true) by decide)) ?_
            have hu := hup ea
            simp only [Bool.false_eq_true, ↓reduceIte] at hu
            exact hu
          · refine Ev.congr (fun k => if_pos rfl) ?_
            have hd := hdn ea
            simp only [↓reduceIte] at hd
            exact hd
        · refine Ev.congr (fun k => if_neg (by rw [decide_eq_true_eq]; exact g)) ?_
          exact hdn (by rw [ea, decide_eq_false g]; rfl)
      · refine Ev.congr (fun k => if_neg m2) ?_
        exact hdn (by unfold awB; rw [if_neg m0, if_neg m1, if_neg m2])
theorem wM_far {neg : Bool} {mode sc : Int} {fr : Nat} (hs : 63 < sc) (hf0 : 9223372036854775808 ≤ fr) : 18446744073709551616 ≤ wM neg mode sc fr := by
  have h2 : 2 ^ 1 ≤ 2 ^ (sc - 63).toNat := Nat.pow_le_pow_right (by decide) (by omega)
  have h3 : 9223372036854775808 * 2 ^ 1 ≤ fr * 2 ^ (sc - 63).toNat := Nat.mul_le_mul hf0 h2
  have : wlN sc fr = fr * 2 ^ (sc - 63).toNat := by unfold wlN; rw [if_pos (by omega)]
  unfold wM; split <;> omega
theorem wM_word {neg : Bool} {mode sc : Int} {fr : Nat} (hs : sc ≤ 63) (hf : fr < 18446744073709551616) : wM neg mode sc fr < 18446744073709551616 := by
  by_cases h : sc = 63
  · have e1 : wlN sc fr = fr := by unfold wlN; rw [if_pos (by omega), show (sc - 63).toNat = 0 by omega, Nat.pow_zero, Nat.mul_one]
    have e2 : lfR sc fr = 0 := by unfold lfR; rw [if_pos (by omega)]
    have pu : 0 < unR sc := Nat.pow_pos (by decide)
    have e3 : awB neg mode sc fr = false := by
      unfold awB; rw [e2]
      split
      · exact decide_eq_false (by rintro (a | ⟨a, _⟩) <;> omega)
      · split
        · rfl
        · split <;> rfl
    unfold wM; rw [e3, if_neg (by decide), e1]; exact hf
  · have h2 : 2 ^ 1 ≤ 2 ^ (63 - sc).toNat := Nat.pow_le_pow_right (by decide) (by omega)
    have e1 : wlN sc fr = fr / 2 ^ (63 - sc).toNat := by unfold wlN; rw [if_neg (by omega)]
    have : fr / 2 ^ (63 - sc).toNat ≤ fr / 2 ^ 1 := Nat.div_le_div_left h2 (by decide)
    unfold wM; split <;> omega
end Go.Proofs.YtlllaoihpkdpmaaDoor.M
