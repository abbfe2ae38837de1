/- Whole numbers that patterns lead to are told by patterns just so: what is rounded off a pattern's number has a pattern of its own. -/
import Derived.Test.YtlllaoihpkdpmaaDoorF7b
import Derived.Test.YtlllaoihpkdpmaaDoorInts4b
namespace Go.Proofs.YtlllaoihpkdpmaaDoor.M
open Go.RowKit Go.Proofs.YtlllaoihpkdpmaaDoorW.PrintWords Go.Proofs.YtlllaoihpkdpmaaDoorW.PrintLast Go.Proofs.YtlllaoihpkdpmaaDoorW.PrintMore Go.Proofs.YtlllaoihpkdpmaaDoor.F
set_option linter.unusedVariables false
set_option linter.unusedSimpArgs false
theorem sc_congr {x y w : Nat} (h : x % 2 ^ w = y % 2 ^ w) : scI x w = scI y w := by unfold scI; rw [rg_congr h, exN_congr h]
theorem mt_congr {x y w : Nat} (h : x % 2 ^ w = y % 2 ^ w) : mtN x w = mtN y w := by unfold mtN; rw [frN_congr h, fb_congr h]
theorem sign_real {n q : Nat} (hn : Wd n) (neg : Bool) (h0 : 0 < q) (hq : q ≤ 2 ^ (n - 1) - 1) : kindN n (signN n neg q) = 1 ∧ topB (signN n neg q) n = neg ∧ abN n (signN n neg q) % 2 ^ (n - 1) = q := by
  rcases hn with rfl | rfl | rfl | rfl <;> cases neg <;> simp only [kindN, topB, abN, signN, ngN, Nat.reduceSub, Nat.reducePow, Bool.false_eq_true, ↓reduceIte] at hq ⊢ <;> (refine ⟨?_, ?_, ?_⟩ <;> (try simp only [decide_eq_true_eq, decide_eq_false_iff_not]) <;> (repeat split) <;> omega)
theorem frac_whole {x w : Nat} (hw : 0 < w) (h : w ≤ 63) {s : Nat} (hs : s ≤ 63) (hf : fbN x w ≤ s) : mtN x w % 2 ^ (63 - s) = 0 := by
  have hfb := fb_le (x := x) hw
  unfold mtN
  rw [show (9223372036854775808 : Nat) = 2 ^ s * 2 ^ (63 - s) by rw [← Nat.pow_add, show s + (63 - s) = 63 by omega]]
  rw [show 63 - fbN x w = (s - fbN x w) + (63 - s) by omega, Nat.pow_add, ← Nat.mul_assoc, ← Nat.add_mul]
  exact Nat.mul_mod_left _ _
theorem run_fb {x w : Nat} (hw : 0 < w) (h : 0 < fbN x w) : runN x w + fbN x w + 3 = w := by
  have hr := runN_le x w
  have hl : lfN x w = w - runN x w - 1 := rfl
  have hs := lf_split x w
  have he : ebN x w = min (lfN x w) 2 := rfl
  omega
theorem blen_of {w s : Nat} (h0 : 2 ^ s ≤ w) (h1 : w < 2 ^ (s + 1)) : blen w = s + 1 := blen_unique h1 (Or.inr (by rw [Nat.add_sub_cancel]; exact h0))
/-- A whole number's string ends within the pattern, if it has room. -/
theorem fits_y {n w s : Nat} (hn : Wd n) (hb : blen w = s + 1) (hr : runS (s : Int) + s + 4 ≤ n) : ∃ q, yN (s : Int) (nmW w) = q * 2 ^ (257 - n) := by
  have g1 := hn.ge
  have g2 := hn.le
  have hrs := run_small (sc := (s : Int)) (by omega) (by omega)
  rw [y_head (by omega) (by omega)]
  have e1 : 2 ^ (253 - runS (s : Int)) = 2 ^ (n - 4 - runS (s : Int)) * 2 ^ (257 - n) := by rw [← Nat.pow_add, show n - 4 - runS (s : Int) + (257 - n) = 253 - runS (s : Int) by omega]
  have e2 : nmW w % 2 ^ 127 = w % 2 ^ s * 2 ^ (127 - s) := by
    unfold nmW
    rw [hb, show 128 - (s + 1) = 127 - s by omega]
    have : (2 : Nat) ^ 127 = 2 ^ s * 2 ^ (127 - s) := by rw [← Nat.pow_add, show s + (127 - s) = 127 by omega]
    rw [this, Nat.mul_mod_mul_right]
  have e3 : 2 ^ (127 - s) * 2 ^ (126 - runS (s : Int)) = 2 ^ (n - 4 - runS (s : Int) - s) * 2 ^ (257 - n) := by
    rw [← Nat.pow_add, ← Nat.pow_add, show 127 - s + (126 - runS (s : Int)) = n - 4 - runS (s : Int) - s + (257 - n) by omega]
  refine ⟨hsN (s : Int) * 2 ^ (n - 4 - runS (s : Int)) + w % 2 ^ s * 2 ^ (n - 4 - runS (s : Int) - s), ?_⟩
  rw [e1, e2, Nat.mul_assoc (w % 2 ^ s), e3, ← Nat.mul_assoc, ← Nat.mul_assoc, ← Nat.add_mul]
theorem pos_of_y {n q : Nat} {sc : Int} {m : Nat} (hn : Wd n) (h0 : -((4 * n - 8 : Nat) : Int) ≤ sc) (h1 : sc < ((4 * n - 8 : Nat) : Int)) (h : yN sc m = q * 2 ^ (257 - n)) : rdP n sc m false = q ∧ 0 < q ∧ q ≤ 2 ^ (n - 1) - 1 := by
  have e : rdP n sc m false = q := by rw [rdP_mid hn h0 h1, h, rh_exact hn]
  have := rdP_range hn sc m false
  rw [e] at this
  exact ⟨e, this.1, this.2⟩
/-- What is told by a pattern just so. -/
def Told (n w : Nat) : Prop := ∃ q, 0 < q ∧ q ≤ 2 ^ (n - 1) - 1 ∧ rdS n w = q ∧ scI q (n - 1) = (blen w : Int) - 1 ∧ mxN q (n - 1) % 2 ^ 127 = nmW w % 2 ^ 127
theorem told_of_y {n w q : Nat} (hn : Wd n) (h0 : 0 < w) (hw : w < 18446744073709551616) (h1 : (blen w : Int) - 1 < ((4 * n - 8 : Nat) : Int)) (h : yN ((blen w : Int) - 1) (nmW w) = q * 2 ^ (257 - n)) : Told n w := by
  have g1 := hn.ge
  have hb := blen_pos h0
  have hb2 := blen_le_of (show w < 2 ^ 64 by rw [p64']; exact hw)
  obtain ⟨a1, a2, a3⟩ := pos_of_y (sc := (blen w : Int) - 1) (q := q) hn (by omega) h1 h
  have hm : q % 2 ^ (n - 1) = q := Nat.mod_eq_of_lt (by omega)
  obtain ⟨b1, b2⟩ := y_pat (x := q) (sc := (blen w : Int) - 1) (m := nmW w) hn (by rw [hm]; exact a2) (by omega) (by omega) (by rw [hm]; exact h)
  refine ⟨q, a2, a3, ?_, b1, b2⟩
  unfold rdS
  rw [if_neg (by omega), a1]
theorem told_mt {n w q : Nat} (hw0 : 0 < w) (hw : w < 18446744073709551616) (h : mxN q (n - 1) % 2 ^ 127 = nmW w % 2 ^ 127) (hq : mtN q (n - 1) < 18446744073709551616) : mtN q (n - 1) = w * 2 ^ (64 - blen w) := by
  have hb2 := blen_le_of (show w < 2 ^ 64 by rw [p64']; exact hw)
  have hn := nm_low hw0 (show w < 340282366920938463463374607431768211456 by omega)
  have ht := mt_top q (n - 1)
  have e : nmW w = w * 2 ^ (64 - blen w) * 18446744073709551616 := by
    unfold nmW
    rw [show 128 - blen w = (64 - blen w) + 64 by omega, Nat.pow_add, p64', Nat.mul_assoc]
  unfold mxN at h
  rw [e] at h hn
  generalize w * 2 ^ (64 - blen w) = z at *
  rw [show (2 : Nat) ^ 127 = 170141183460469231731687303715884105728 by decide] at h hn
  omega
/-- What a pattern's number is rounded to, has a pattern of its own. -/
theorem back_key {n p : Nat} {mode : Int} {neg : Bool} (hn : Wd n) (hp : p < 18446744073709551616) (hk : kindN n p = 1) (hs : scI (abN n p) (n - 1) ≤ 63) (hw : 0 < wM neg mode (scI (abN n p) (n - 1)) (mtN (abN n p) (n - 1))) :
    Told n (wM neg mode (scI (abN n p) (n - 1)) (mtN (abN n p) (n - 1))) := by
  have g1 := hn.ge
  have g2 := hn.le
  have hx := ab_pos hn hp hk
  generalize abN n p = x at *
  have hw1 : 0 < n - 1 := by omega
  obtain ⟨s0, s1⟩ := sc_ends hn hx
  have hmt0 := mt_top x (n - 1)
  have hmt : mtN x (n - 1) < 18446744073709551616 := by
    have := mtN_lt (x := x) hw1 (by omega)
    unfold mtN; omega
  have hwd := wM_word (neg := neg) (mode := mode) hs hmt
  by_cases hl : lfR (scI x (n - 1)) (mtN x (n - 1)) = 0
  · -- a whole number itself
    have hge : 0 ≤ scI x (n - 1) := by
      rcases Int.lt_or_le (scI x (n - 1)) 0 with c | c
      · exfalso
        unfold lfR at hl
        rw [if_neg (by omega)] at hl
        have h64 : 2 ^ 64 ≤ 2 ^ (63 - scI x (n - 1)).toNat := Nat.pow_le_pow_right (by decide) (by omega)
        rw [p64'] at h64
        rw [Nat.mod_eq_of_lt (by omega)] at hl
        omega
      · exact c
    obtain ⟨s, hss⟩ : ∃ s : Nat, scI x (n - 1) = (s : Int) := ⟨(scI x (n - 1)).toNat, by omega⟩
    have hs63 : s ≤ 63 := by omega
    have pu : 0 < unR (scI x (n - 1)) := Nat.pow_pos (by decide)
    have haw : awB neg mode (scI x (n - 1)) (mtN x (n - 1)) = false := by
      unfold awB; rw [hl]
      split
      · exact decide_eq_false (by rintro (a | ⟨a, _⟩) <;> omega)
      · split
        · rfl
        · split <;> rfl
    have hm0 : mtN x (n - 1) % 2 ^ (63 - s) = 0 := by
      by_cases c : s = 63
      · rw [c, Nat.sub_self, Nat.pow_zero, Nat.mod_one]
      · unfold lfR at hl
        rw [hss, if_neg (by omega), show (63 - (s : Int)).toNat = 63 - s by omega] at hl
        exact hl
    have hwv : wM neg mode (scI x (n - 1)) (mtN x (n - 1)) = mtN x (n - 1) / 2 ^ (63 - s) := by
      unfold wM wlN
      rw [haw, if_neg (by decide), hss]
      by_cases c : s = 63
      · rw [if_pos (by omega), c, show ((63 : Nat) : Int) - 63 = 0 by omega]
        simp
      · rw [if_neg (by omega), show (63 - (s : Int)).toNat = 63 - s by omega]
    have hmul : mtN x (n - 1) / 2 ^ (63 - s) * 2 ^ (63 - s) = mtN x (n - 1) := by
      have := Nat.div_add_mod (mtN x (n - 1)) (2 ^ (63 - s))
      rw [hm0, Nat.add_zero, Nat.mul_comm] at this
      exact this
    rw [hwv] at hw hwd ⊢
    obtain ⟨w, hwe⟩ : ∃ w, w = mtN x (n - 1) / 2 ^ (63 - s) := ⟨_, rfl⟩
    rw [← hwe] at hmul hw hwd ⊢
    have pb : 0 < 2 ^ (63 - s) := Nat.pow_pos (by decide)
    have hb : blen w = s + 1 := by
      refine blen_of ?_ ?_
      · refine Nat.le_of_mul_le_mul_right ?_ pb
        rw [hmul, ← Nat.pow_add, show s + (63 - s) = 63 by omega]; exact hmt0
      · refine Nat.lt_of_mul_lt_mul_right (a := 2 ^ (63 - s)) ?_
        rw [hmul, ← Nat.pow_add, show s + 1 + (63 - s) = 64 by omega, p64']; exact hmt
    have hnm : nmW w = mxN x (n - 1) := by
      unfold nmW mxN
      rw [hb, ← hmul, Nat.mul_assoc]
      congr 1
      rw [show 128 - (s + 1) = (63 - s) + 64 by omega, Nat.pow_add, p64']
    have hsb : (blen w : Int) - 1 = scI x (n - 1) := by rw [hb, hss]; omega
    have hpr := pat_round hn hx
    have hlt : x % 2 ^ (n - 1) < 2 ^ (n - 1) := Nat.mod_lt _ (Nat.pow_pos (by decide))
    have hmm : x % 2 ^ (n - 1) % 2 ^ (n - 1) = x % 2 ^ (n - 1) := Nat.mod_mod ..
    refine ⟨x % 2 ^ (n - 1), hx, by omega, ?_, ?_, ?_⟩
    · unfold rdS
      rw [if_neg (by omega), hsb, hnm, hpr]
    · rw [sc_congr hmm, hsb]
    · rw [hnm]
      unfold mxN
      rw [mt_congr hmm]
  · -- something is left: there is room for one bit more at least
    by_cases hneg : scI x (n - 1) < 0
    · -- nought or one
      have h64 : 2 ^ 64 ≤ 2 ^ (63 - scI x (n - 1)).toNat := Nat.pow_le_pow_right (by decide) (by omega)
      rw [p64'] at h64
      have hw0 : wlN (scI x (n - 1)) (mtN x (n - 1)) = 0 := by
        unfold wlN
        rw [if_neg (by omega)]
        exact Nat.div_eq_of_lt (by omega)
      have hone : wM neg mode (scI x (n - 1)) (mtN x (n - 1)) = 1 := by
        unfold wM at hw ⊢
        rw [hw0] at hw ⊢
        split
        · rfl
        · rename_i c; rw [if_neg c] at hw; omega
      rw [hone]
      have hb : blen 1 = 0 + 1 := by decide
      have hr0 : runS ((0 : Nat) : Int) = 1 := by decide
      obtain ⟨q, hq⟩ := fits_y (w := 1) (s := 0) hn hb (by rw [hr0]; omega)
      refine told_of_y (q := q) hn (by decide) (by decide) (by rw [hb]; omega) ?_
      rw [hb]
      exact hq
    · obtain ⟨s, hss⟩ : ∃ s : Nat, scI x (n - 1) = (s : Int) := ⟨(scI x (n - 1)).toNat, by omega⟩
      have hs62 : s ≤ 62 := by
        rcases Nat.lt_or_ge 62 s with c | c
        · exfalso; apply hl; unfold lfR; rw [if_pos (by omega)]
        · exact c
      have hfb : s < fbN x (n - 1) := by
        rcases Nat.lt_or_ge s (fbN x (n - 1)) with c | c
        · exact c
        · exfalso; apply hl
          unfold lfR
          rw [hss, if_neg (by omega), show (63 - (s : Int)).toNat = 63 - s by omega]
          exact frac_whole hw1 (by omega) (by omega) c
      have hrf := run_fb (x := x) hw1 (by omega)
      obtain ⟨d1, d2, d3, d4⟩ := scale_div (x := x) hw1
      rw [hss] at d3
      have hwl : wlN (scI x (n - 1)) (mtN x (n - 1)) = mtN x (n - 1) / 2 ^ (63 - s) := by
        unfold wlN; rw [hss, if_neg (by omega), show (63 - (s : Int)).toNat = 63 - s by omega]
      have pb : 0 < 2 ^ (63 - s) := Nat.pow_pos (by decide)
      have hlo : 2 ^ s ≤ mtN x (n - 1) / 2 ^ (63 - s) := by
        rw [Nat.le_div_iff_mul_le pb, ← Nat.pow_add, show s + (63 - s) = 63 by omega]; exact hmt0
      have hhi : mtN x (n - 1) / 2 ^ (63 - s) < 2 ^ (s + 1) := by
        rw [Nat.div_lt_iff_lt_mul pb, ← Nat.pow_add, show s + 1 + (63 - s) = 64 by omega, p64']; exact hmt
      have hcase : wM neg mode (scI x (n - 1)) (mtN x (n - 1)) = mtN x (n - 1) / 2 ^ (63 - s) ∨ wM neg mode (scI x (n - 1)) (mtN x (n - 1)) = mtN x (n - 1) / 2 ^ (63 - s) + 1 := by
        unfold wM; rw [hwl]; split
        · exact Or.inr rfl
        · exact Or.inl rfl
      have hsn : (s : Int) + 1 < ((4 * n - 8 : Nat) : Int) := by omega
      generalize wM neg mode (scI x (n - 1)) (mtN x (n - 1)) = w at *
      by_cases hov : w < 2 ^ (s + 1)
      · have hb : blen w = s + 1 := blen_of (by omega) hov
        obtain ⟨q, hq⟩ := fits_y (w := w) (s := s) hn hb (by omega)
        have e : (blen w : Int) - 1 = (s : Int) := by rw [hb]; omega
        exact told_of_y (q := q) hn hw hwd (by rw [e]; omega) (by rw [e]; exact hq)
      · have hwe : w = 2 ^ (s + 1) := by omega
        have hb : blen w = s + 1 + 1 := by rw [hwe]; exact blen_of (Nat.le_refl _) (Nat.pow_lt_pow_right (by decide) (by omega))
        have e : (blen w : Int) - 1 = (s : Int) + 1 := by rw [hb]; omega
        have hnm : nmW w = 2 ^ 127 := by
          unfold nmW
          rw [hb, hwe, ← Nat.pow_add, show s + 1 + (128 - (s + 1 + 1)) = 127 by omega]
        have hy := y_step (sc := (s : Int)) (by omega) (by omega)
        have e2 : 2 ^ (253 - runS (s : Int)) = 2 ^ (n - 4 - runS (s : Int)) * 2 ^ (257 - n) := by rw [← Nat.pow_add, show n - 4 - runS (s : Int) + (257 - n) = 253 - runS (s : Int) by omega]
        exact told_of_y (q := (hsN (s : Int) + 1) * 2 ^ (n - 4 - runS (s : Int))) hn hw hwd (by rw [e]; omega) (by rw [e, hnm, hy, e2, Nat.mul_assoc])
end Go.Proofs.YtlllaoihpkdpmaaDoor.M
