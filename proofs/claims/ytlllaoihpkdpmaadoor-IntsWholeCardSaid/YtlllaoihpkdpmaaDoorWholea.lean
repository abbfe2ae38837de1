/- Whole numbers among patterns: which patterns are whole, what a pattern is rounded to by each mode; program and reference. -/
import Derived.Test.YtlllaoihpkdpmaaDoorF7a
import Derived.Test.YtlllaoihpkdpmaaDoorF16a
import Derived.Test.YtlllaoihpkdpmaaDoorF17a
import Derived.Test.YtlllaoihpkdpmaaDoorBacka
import Derived.Test.YtlllaoihpkdpmaaDoorTzsa
namespace Go.Proofs.YtlllaoihpkdpmaaDoor.M
open Go.RowKit Go.Proofs.YtlllaoihpkdpmaaDoorW.PrintWords Go.Proofs.YtlllaoihpkdpmaaDoorW.PrintLast Go.Proofs.YtlllaoihpkdpmaaDoorW.PrintMore Go.Proofs.YtlllaoihpkdpmaaDoor.F
set_option linter.unusedVariables false
set_option linter.unusedSimpArgs false
theorem IsWhole_no {a p : Int} (h : NoW a) : Ev (fun k => ints_IsWhole.f k a p) (false, some 2) := by
  unfold ints_IsWhole.f; exact Ev.bind (Decode_no h) (Ev.now _)
theorem IsWhole_start {n p : Nat} {r : Bool × Option Int} (h : Wd n) (hp : p < 18446744073709551616)
    (hr : Ev (fun k => if (meansT n p ()).1 = 2 then (some (false, some 9)) else (if (meansT n p ()).1 = 0 then (some (true, none)) else (if (meansT n p ()).2.2.1 ≥ 63 then (some (true, none)) else ((bits_TrailingZeros64.f (meansT n p ()).2.2.2.1).bind fun t => (some (decide (t ≥ (wrap64 (63 - (meansT n p ()).2.2.1))), none)))))) r) : Ev (fun k => ints_IsWhole.f k (n : Int) (p : Int)) r := by
  have hd := Decode_ev h hp
  have e : meansT n p (none : Option Int) = ((meansT n p ()).1, (meansT n p ()).2.1, (meansT n p ()).2.2.1, (meansT n p ()).2.2.2.1, none) := by unfold meansT; split <;> rfl
  rw [e] at hd
  unfold ints_IsWhole.f
  refine Ev.bind hd ?_
  simp only [Option.isNone_none, ↓reduceIte]
  exact hr
theorem IsWhole_nar {n p : Nat} (h : Wd n) (hp : p < 18446744073709551616) (hk : kindN n p = 2) : Ev (fun k => ints_IsWhole.f k (n : Int) (p : Int)) (false, some 9) := by
  refine IsWhole_start h hp ?_
  rw [means_other (by omega) ()]
  exact Ev.congr (fun k => if_pos hk) (Ev.now _)
theorem IsWhole_zero {n p : Nat} (h : Wd n) (hp : p < 18446744073709551616) (hk : kindN n p = 0) : Ev (fun k => ints_IsWhole.f k (n : Int) (p : Int)) (true, none) := by
  refine IsWhole_start h hp ?_
  rw [means_other (by omega) ()]
  exact Ev.congr (fun k => if_neg (by show ¬ kindN n p = 2; omega)) (Ev.congr (fun k => if_pos hk) (Ev.now _))
theorem lf_dec {sc : Int} {fr : Nat} : decide (0 < lfR sc fr) = !decide (lfR sc fr = 0) := by
  rw [Bool.eq_iff_iff]; simp; omega
theorem IsWhole_real {n p : Nat} (h : Wd n) (hp : p < 18446744073709551616) (hk : kindN n p = 1) : Ev (fun k => ints_IsWhole.f k (n : Int) (p : Int)) (decide (lfR (scI (abN n p) (n - 1)) (mtN (abN n p) (n - 1)) = 0), none) := by
  have hs := sc_small (p := p) h
  have hf0 := mt_top (abN n p) (n - 1)
  have hf := mt_word (p := p) h
  refine IsWhole_start h hp ?_
  rw [means_real hk ()]
  generalize scI (abN n p) (n - 1) = sc at *
  generalize mtN (abN n p) (n - 1) = fr at *
  refine Ev.congr (fun k => if_neg (show ¬ (1 : Int) = 2 by decide)) (Ev.congr (fun k => if_neg (show ¬ (1 : Int) = 0 by decide)) ?_)
  by_cases c : sc ≥ 63
  · have : lfR sc fr = 0 := by unfold lfR; rw [if_pos (by omega)]
    rw [this]
    exact Ev.congr (fun k => if_pos c) (Ev.now _)
  · refine Ev.congr (fun k => if_neg c) (Ev.bindp (Trail64 (by omega) hf) ?_)
    have e1 : wrap64 (63 - sc) = ((63 - sc).toNat : Int) := by rw [w64 (by omega) (by omega)]; omega
    have e2 : decide (((tzN 64 fr : Nat) : Int) ≥ ((63 - sc).toNat : Int)) = decide (lfR sc fr = 0) := by
      rw [Bool.eq_iff_iff, decide_eq_true_eq, decide_eq_true_eq]
      unfold lfR
      rw [if_neg (by omega), ← tz_dvd (by omega) hf]
      omega
    show Ev (fun k => some (decide (((tzN 64 fr : Nat) : Int) ≥ wrap64 (63 - sc)), none)) _
    rw [e1, e2]
    exact Ev.now _
theorem IsWhole16_no {a p : Int} (h : NoW a) : Ev (fun k => vernierref16_IsWhole.f k a p) (false, 2) := by
  unfold vernierref16_IsWhole.f; rw [Is_no h]; exact Ev.now _
theorem IsWhole16_nar {n p : Nat} (h : Wd n) (hp : p < 18446744073709551616) (hk : kindN n p = 2) : Ev (fun k => vernierref16_IsWhole.f k (n : Int) (p : Int)) (false, 9) := by
  unfold vernierref16_IsWhole.f
  rw [Is_w h]
  simp only [Option.bind_some, ↓reduceIte]
  refine Ev.bind (Decode06_ev h hp) ?_
  rw [means_other (by omega) ()]
  exact Ev.congr (fun k => if_pos hk) (Ev.now _)
theorem IsWhole16_zero {n p : Nat} (h : Wd n) (hp : p < 18446744073709551616) (hk : kindN n p = 0) : Ev (fun k => vernierref16_IsWhole.f k (n : Int) (p : Int)) (true, 0) := by
  unfold vernierref16_IsWhole.f
  rw [Is_w h]
  simp only [Option.bind_some, ↓reduceIte]
  refine Ev.bind (Decode06_ev h hp) ?_
  rw [means_other (by omega) ()]
  exact Ev.congr (fun k => if_neg (by show ¬ kindN n p = 2; omega)) (Ev.congr (fun k => if_pos hk) (Ev.now _))
theorem IsWhole16_real {n p : Nat} (h : Wd n) (hp : p < 18446744073709551616) (hk : kindN n p = 1) : Ev (fun k => vernierref16_IsWhole.f k (n : Int) (p : Int)) (decide (lfR (scI (abN n p) (n - 1)) (mtN (abN n p) (n - 1)) = 0), 0) := by
  have hs := sc_small (p := p) h
  unfold vernierref16_IsWhole.f
  rw [Is_w h]
  simp only [Option.bind_some, ↓reduceIte]
  refine Ev.bind (Decode06_ev h hp) ?_
  rw [means_real hk ()]
  refine Ev.congr (fun k => if_neg (show ¬ (1 : Int) = 2 by decide)) (Ev.congr (fun k => if_neg (show ¬ (1 : Int) = 0 by decide)) ?_)
  refine Ev.bind (parts_ev hs.1 hs.2 (mt_top _ _) (mt_word h)) ?_
  simp only [lf_dec, Bool.not_not]
  exact Ev.now _
/-- A great whole number, made ready to be rounded. -/
theorem Exactly_far {neg : Bool} {fr : Nat} {sc : Int} (h0 : 63 < sc) (h1 : sc ≤ 1000) (hf0 : 9223372036854775808 ≤ fr) (hf : fr < 18446744073709551616) :
    Ev (fun k => vernierref07_Exactly.f k neg (digs (wlN sc fr)) 0 false) (1, neg, sc, hi (fr * 18446744073709551616), lo (fr * 18446744073709551616), false) := by
  obtain ⟨s, hs⟩ : ∃ s : Nat, sc = ((s + 63 : Nat) : Int) := ⟨(sc - 63).toNat, by omega⟩
  have hwl : wlN sc fr = fr * 2 ^ s := by unfold wlN; rw [if_pos (by omega), show (sc - 63).toNat = s by omega]
  have hbig := wl_big h1 hf
  have hl := dlen (v := wlN sc fr) (Nat.lt_trans hbig (by decide +kernel))
  have hb0 : blen fr = 64 := blen_of (s := 63) hf0 (by rw [show (2 : Nat) ^ (63 + 1) = 18446744073709551616 by decide]; exact hf)
  have hb : blen (wlN sc fr) = s + 64 := by rw [hwl, blen_mul (by omega), hb0]; omega
  unfold vernierref07_Exactly.f
  refine Ev.bind (Bits_ev (by omega)) ?_
  rw [hb]
  refine Ev.congr (fun k => if_neg (by omega)) ?_
  have e1 : wrap64 (wrap64 (0 + ((s + 64 : Nat) : Int)) - 1) = sc := by rw [w64 (x := 0 + ((s + 64 : Nat) : Int)) (by omega) (by omega), w64 (by omega) (by omega)]; omega
  refine Ev.bindp (a := sc) (by rw [e1]; exact Held07_in (by omega) (by omega)) ?_
  have eN : ∀ v : Nat, v = fr * 18446744073709551616 → v / 2 ^ 64 % 18446744073709551616 = v / 18446744073709551616 % 18446744073709551616 := fun v _ => by rw [p64']
  have l2 : (digs (fr * 18446744073709551616)).length < 100 := by
    have : (digs (fr * 18446744073709551616)).length ≤ 6 := digs_length_le (by rw [show 16777216 ^ 6 = 22300745198530623141535718272648361505980416 by decide]; omega)
    omega
  have hend : Ev (fun k => (vernierref04_Word.f k (digs (fr * 18446744073709551616))).bind fun t365 => ((vernierref04_Shr.f k (digs (fr * 18446744073709551616)) 64).bind fun t366 => ((vernierref04_Word.f k t366).bind fun t369 => (some ((1 : Int), neg, sc, t369, t365, false))))) (1, neg, sc, hi (fr * 18446744073709551616), lo (fr * 18446744073709551616), false) := by
    refine Ev.bind (Word_ev _) (Ev.bind (Shr_ev (x := fr * 18446744073709551616) (k := 64) (by omega) (by decide)) (Ev.bind (Word_ev _) ?_))
    rw [p64']
    exact Ev.now _
  by_cases c1 : s + 64 < 128
  · refine Ev.congr (fun k => if_pos (by omega)) ?_
    have e2 : wrap64 (128 - ((s + 64 : Nat) : Int)) = ((64 - s : Nat) : Int) := by rw [w64 (by omega) (by omega)]; omega
    rw [e2]
    refine Ev.bind (Shl_ev (x := wlN sc fr) (k := 64 - s) (by omega) (by omega)) ?_
    have e3 : wlN sc fr * 2 ^ (64 - s) = fr * 18446744073709551616 := by rw [hwl, Nat.mul_assoc, ← Nat.pow_add, show s + (64 - s) = 64 by omega, p64']
    rw [e3]
    refine Ev.step (fun k => by simp only [vernierref07_Exactly.j0]; rw [if_neg (by omega)]) hend
  · refine Ev.congr (fun k => if_neg (by omega)) ?_
    by_cases c2 : s + 64 = 128
    · have e3 : wlN sc fr = fr * 18446744073709551616 := by rw [hwl, show s = 64 by omega, p64']
      rw [e3]
      refine Ev.step (fun k => by simp only [vernierref07_Exactly.j0]; rw [if_neg (by omega)]) hend
    · have e2 : wrap64 (((s + 64 : Nat) : Int) - 128) = ((s - 64 : Nat) : Int) := by rw [w64 (by omega) (by omega)]; omega
      have hwr : wlN sc fr = fr * 18446744073709551616 * 2 ^ (s - 64) := by
        rw [hwl, Nat.mul_assoc, ← p64', ← Nat.pow_add, show 64 + (s - 64) = s by omega]
      have hz : wlN sc fr % 2 ^ (s - 64) = 0 := by rw [hwr]; exact Nat.mul_mod_left _ _
      have hq : wlN sc fr / 2 ^ (s - 64) = fr * 18446744073709551616 := by rw [hwr, Nat.mul_div_cancel _ (Nat.pow_pos (by decide))]
      have hlow := Low_ev (x := wlN sc fr) (k := s - 64) (by omega) (by omega)
      rw [hz] at hlow
      refine Ev.step (fun k => by simp only [vernierref07_Exactly.j0]; rw [if_pos (by omega), e2]) (Ev.bind hlow ?_)
      simp only [Bool.false_eq_true, ↓reduceIte, ne_eq, not_true_eq_false, decide_false]
      refine Ev.step (fun k => by simp only [vernierref07_Exactly.j1]; rw [e2]) (Ev.bind (Shr_ev (x := wlN sc fr) (k := s - 64) (by omega) (by omega)) ?_)
      rw [hq]
      exact hend
theorem mx_bounds {x w : Nat} (hw : 0 < w) (h : w ≤ 63) : 170141183460469231731687303715884105728 ≤ mtN x w * 18446744073709551616 ∧ mtN x w * 18446744073709551616 < 340282366920938463463374607431768211456 := by
  have h1 := mtN_lt (x := x) hw h
  unfold mtN
  omega
/-- The reference's answer for a great number: the pattern itself. -/
theorem Whole16_far {n p : Nat} {mode : Int} (h : Wd n) (hp : p < 18446744073709551616) (hm0 : 0 ≤ mode) (hm3 : mode ≤ 3) (hk : kindN n p = 1) (hs : 63 < scI (abN n p) (n - 1)) :
    Ev (fun k => vernierref16_Whole.f k (n : Int) (p : Int) mode) (((p % 2 ^ n : Nat) : Int), 0) := by
  have g1 := h.ge
  have g2 := h.le
  have hsm := sc_small (p := p) h
  have hf0 := mt_top (abN n p) (n - 1)
  have hf := mt_word (p := p) h
  have hT := To_real h hp hm0 hm3 hk
  have hx := ab_pos h hp hk
  have hwf := wM_far (neg := topB p n) (mode := mode) hs hf0
  have hd : (topB p n && decide (0 < wM (topB p n) mode (scI (abN n p) (n - 1)) (mtN (abN n p) (n - 1)))) = topB p n := by rw [decide_eq_true (by omega), Bool.and_true]
  rw [hd] at hT
  have haw : awB (topB p n) mode (scI (abN n p) (n - 1)) (mtN (abN n p) (n - 1)) = false := by
    have hl : lfR (scI (abN n p) (n - 1)) (mtN (abN n p) (n - 1)) = 0 := by unfold lfR; rw [if_pos (by omega)]
    have pu : 0 < unR (scI (abN n p) (n - 1)) := Nat.pow_pos (by decide)
    unfold awB; rw [hl]
    split
    · exact decide_eq_false (by rintro (a | ⟨a, _⟩) <;> omega)
    · split
      · rfl
      · split <;> rfl
  have hwm : wM (topB p n) mode (scI (abN n p) (n - 1)) (mtN (abN n p) (n - 1)) = wlN (scI (abN n p) (n - 1)) (mtN (abN n p) (n - 1)) := by unfold wM; rw [haw, if_neg (by decide)]
  rw [hwm] at hT
  obtain ⟨b1, b2⟩ := mx_bounds (x := abN n p) (w := n - 1) (by omega) (by omega)
  have hR := Round07_made (n := n) (neg := topB p n) (rest := false) (sc := scI (abN n p) (n - 1)) h (by omega) (by omega) b1 b2
  have hpr := pat_round h hx
  have e : rdN n (topB p n) (scI (abN n p) (n - 1)) (mtN (abN n p) (n - 1) * 18446744073709551616) false = p % 2 ^ n := by
    unfold rdN
    have e2 : rdP n (scI (abN n p) (n - 1)) (mtN (abN n p) (n - 1) * 18446744073709551616) false = abN n p % 2 ^ (n - 1) := hpr
    rw [e2, sign_back h hp hk]
  rw [e] at hR
  unfold vernierref16_Whole.f
  refine Ev.bind hT ?_
  refine Ev.congr (fun k => if_pos rfl) (Ev.bind (Exactly_far hs (by omega) hf0 hf) ?_)
  exact Ev.bind hR (Ev.now _)
theorem Whole16_near {n w : Nat} {a mode : Int} {neg : Bool} {p : Int} (h : Wd n) (hw : w < 18446744073709551616) (hT : Ev (fun k => vernierref16_To.f k (n : Int) p mode) (neg, digs w, 0)) : Ev (fun k => vernierref16_Whole.f k (n : Int) p mode) ((rdV n neg 0 w : Int), 0) := by
  unfold vernierref16_Whole.f
  refine Ev.bind hT ?_
  exact Ev.congr (fun k => if_pos rfl) (round07_V h (by omega))
theorem Whole16_err {a p mode e : Int} (he : e = 2 ∨ e = 24 ∨ e = 9) (h : Ev (fun k => vernierref16_To.f k a p mode) (false, [], e)) : Ev (fun k => vernierref16_Whole.f k a p mode) (0, e) := by
  unfold vernierref16_Whole.f
  refine Ev.bind h ?_
  exact Ev.congr (fun k => if_neg (by show ¬ e = 0; omega)) (Ev.now _)
/-- The program's. -/
theorem Wholes_far {n p : Nat} {mode : Int} {neg : Bool} (hn : Wd n) (hp : p < 18446744073709551616) (h : Ev (fun k => ints_told.f k (n : Int) (p : Int) mode) (neg, true, 0, none)) : Ev (fun k => ints_Whole.f k (n : Int) (p : Int) mode) (((p % 2 ^ n : Nat) : Int), none) := by
  have g2 := hn.le
  have e : wrap64 (64 - (n : Int)) = ((64 - n : Nat) : Int) := by rw [w64 (by omega) (by omega)]; omega
  have hpp : 0 < 2 ^ (64 - n) := Nat.pow_pos (by decide)
  have e64 : 18446744073709551616 = 2 ^ n * 2 ^ (64 - n) := by rw [← Nat.pow_add, show n + (64 - n) = 64 by omega]
  unfold ints_Whole.f
  refine Ev.bind h ?_
  simp only [Option.isNone_none, ↓reduceIte, e]
  have e2 : shr .u64 (shl .u64 (p : Int) ((64 - n : Nat) : Int)) ((64 - n : Nat) : Int) = ((p % 2 ^ n : Nat) : Int) := by
    rw [shl_nat, shr_nat (Nat.mod_lt _ (by decide))]
    congr 1
    rw [e64, Nat.mul_mod_mul_right, Nat.mul_div_cancel _ hpp]
  rw [e2]
  exact Ev.congr (fun k => if_pos (by omega)) (Ev.now _)
theorem Wholes_err {a p mode e : Int} (h : Ev (fun k => ints_told.f k a p mode) (false, false, 0, some e)) : Ev (fun k => ints_Whole.f k a p mode) (0, some e) := by
  unfold ints_Whole.f; exact Ev.bind h (Ev.now _)
end Go.Proofs.YtlllaoihpkdpmaaDoor.M
