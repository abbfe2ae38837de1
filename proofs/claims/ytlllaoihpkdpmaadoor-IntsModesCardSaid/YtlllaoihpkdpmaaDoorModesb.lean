/- The four modes beside one another: the whole number below a pattern's and the one above, as patterns. -/
import Derived.Test.YtlllaoihpkdpmaaDoorF7b
import Derived.Test.YtlllaoihpkdpmaaDoorF11b
import Derived.Test.YtlllaoihpkdpmaaDoorF12b
import Derived.Test.YtlllaoihpkdpmaaDoorF21b
import Derived.Test.YtlllaoihpkdpmaaDoorWholeb
namespace Go.Proofs.YtlllaoihpkdpmaaDoor.M
open Go.RowKit Go.Proofs.YtlllaoihpkdpmaaDoorW.PrintWords Go.Proofs.YtlllaoihpkdpmaaDoorW.PrintLast Go.Proofs.YtlllaoihpkdpmaaDoorW.PrintMore Go.Proofs.YtlllaoihpkdpmaaDoor.F
set_option linter.unusedVariables false
set_option linter.unusedSimpArgs false
/-- A whole number of a pattern is the pattern's number itself. -/
theorem whole_same {n x : Nat} (hn : Wd n) (hx : 0 < x % 2 ^ (n - 1)) (hs : scI x (n - 1) ≤ 63) (hl : lfR (scI x (n - 1)) (mtN x (n - 1)) = 0) :
    0 < wlN (scI x (n - 1)) (mtN x (n - 1)) ∧ rdS n (wlN (scI x (n - 1)) (mtN x (n - 1))) = x % 2 ^ (n - 1) := by
  have g1 := hn.ge
  have g2 := hn.le
  have hw1 : 0 < n - 1 := by omega
  obtain ⟨s0, s1⟩ := sc_ends hn hx
  have hmt0 := mt_top x (n - 1)
  have hmt : mtN x (n - 1) < 18446744073709551616 := by
    have := mtN_lt (x := x) hw1 (by omega)
    unfold mtN; omega
  have hge : 0 ≤ scI x (n - 1) := by
    rcases Int.lt_or_le (scI x (n - 1)) 0 with c | c
    · exfalso
      unfold lfR at hl
      rw [if_neg (by omega)] at hl
      have h64 : 2 ^ 64 ≤ 2 ^ (63 - scI x (n - 1)).toNat := Nat.pow_le_pow_right (by decide) (by omega)
      rw [p64'] at h64
      rw [Nat.mod_eq_of_lt (by omega)] at hl
      omega
    · exact c
  obtain ⟨s, hss⟩ : ∃ s : Nat, scI x (n - 1) = (s : Int) := ⟨(scI x (n - 1)).toNat, by omega⟩
  have hs63 : s ≤ 63 := by omega
  have hm0 : mtN x (n - 1) % 2 ^ (63 - s) = 0 := by
    by_cases c : s = 63
    · rw [c, Nat.sub_self, Nat.pow_zero, Nat.mod_one]
    · unfold lfR at hl
      rw [hss, if_neg (by omega), show (63 - (s : Int)).toNat = 63 - s by omega] at hl
      exact hl
  have hwv : wlN (scI x (n - 1)) (mtN x (n - 1)) = mtN x (n - 1) / 2 ^ (63 - s) := by
    unfold wlN
    rw [hss]
    by_cases c : s = 63
    · rw [if_pos (by omega), c, show ((63 : Nat) : Int) - 63 = 0 by omega]
      simp
    · rw [if_neg (by omega), show (63 - (s : Int)).toNat = 63 - s by omega]
  have hmul : mtN x (n - 1) / 2 ^ (63 - s) * 2 ^ (63 - s) = mtN x (n - 1) := by
    have := Nat.div_add_mod (mtN x (n - 1)) (2 ^ (63 - s))
    rw [hm0, Nat.add_zero, Nat.mul_comm] at this
    exact this
  rw [hwv]
  obtain ⟨w, hwe⟩ : ∃ w, w = mtN x (n - 1) / 2 ^ (63 - s) := ⟨_, rfl⟩
  rw [← hwe] at hmul ⊢
  have pb : 0 < 2 ^ (63 - s) := Nat.pow_pos (by decide)
  have hb : blen w = s + 1 := by
    refine blen_of ?_ ?_
    · refine Nat.le_of_mul_le_mul_right ?_ pb
      rw [hmul, ← Nat.pow_add, show s + (63 - s) = 63 by omega]; exact hmt0
    · refine Nat.lt_of_mul_lt_mul_right (a := 2 ^ (63 - s)) ?_
      rw [hmul, ← Nat.pow_add, show s + 1 + (63 - s) = 64 by omega, p64']; exact hmt
  have hw0 : 0 < w := by
    rcases Nat.eq_zero_or_pos w with c | c
    · rw [c] at hmul; omega
    · exact c
  have hnm : nmW w = mxN x (n - 1) := by
    unfold nmW mxN
    rw [hb, ← hmul, Nat.mul_assoc]
    congr 1
    rw [show 128 - (s + 1) = (63 - s) + 64 by omega, Nat.pow_add, p64']
  have hsb : (blen w : Int) - 1 = scI x (n - 1) := by rw [hb, hss]; omega
  refine ⟨hw0, ?_⟩
  unfold rdS
  rw [if_neg (by omega), hsb, hnm, pat_round hn hx]
/-- The whole number below is rounded to no more, the one above to no less. -/
theorem whole_low {n x : Nat} (hn : Wd n) (hx : 0 < x % 2 ^ (n - 1)) (hs : scI x (n - 1) ≤ 63) : rdS n (wlN (scI x (n - 1)) (mtN x (n - 1))) ≤ x % 2 ^ (n - 1) := by
  have g1 := hn.ge
  have g2 := hn.le
  have hw1 : 0 < n - 1 := by omega
  have hmt0 := mt_top x (n - 1)
  have hmt : mtN x (n - 1) < 18446744073709551616 := by
    have := mtN_lt (x := x) hw1 (by omega)
    unfold mtN; omega
  rw [← pat_round hn hx]
  unfold rdS
  by_cases hz : wlN (scI x (n - 1)) (mtN x (n - 1)) = 0
  · rw [if_pos hz]; exact Nat.zero_le _
  · rw [if_neg hz]
    refine rdP_mono hn ?_
    have hge : 0 ≤ scI x (n - 1) := by
      rcases Int.lt_or_le (scI x (n - 1)) 0 with c | c
      · exfalso; apply hz
        unfold wlN
        rw [if_neg (by omega)]
        have h64 : 2 ^ 64 ≤ 2 ^ (63 - scI x (n - 1)).toNat := Nat.pow_le_pow_right (by decide) (by omega)
        rw [p64'] at h64
        exact Nat.div_eq_of_lt (by omega)
      · exact c
    obtain ⟨s, hss⟩ : ∃ s : Nat, scI x (n - 1) = (s : Int) := ⟨(scI x (n - 1)).toNat, by omega⟩
    have hs63 : s ≤ 63 := by omega
    have hwv : wlN (scI x (n - 1)) (mtN x (n - 1)) = mtN x (n - 1) / 2 ^ (63 - s) := by
      unfold wlN
      rw [hss]
      by_cases c : s = 63
      · rw [if_pos (by omega), c, show ((63 : Nat) : Int) - 63 = 0 by omega]
        simp
      · rw [if_neg (by omega), show (63 - (s : Int)).toNat = 63 - s by omega]
    rw [hwv]
    have pb : 0 < 2 ^ (63 - s) := Nat.pow_pos (by decide)
    have hlo : 2 ^ s ≤ mtN x (n - 1) / 2 ^ (63 - s) := by
      rw [Nat.le_div_iff_mul_le pb, ← Nat.pow_add, show s + (63 - s) = 63 by omega]; exact hmt0
    have hhi : mtN x (n - 1) / 2 ^ (63 - s) < 2 ^ (s + 1) := by
      rw [Nat.div_lt_iff_lt_mul pb, ← Nat.pow_add, show s + 1 + (63 - s) = 64 by omega, p64']; exact hmt
    have hle : mtN x (n - 1) / 2 ^ (63 - s) * 2 ^ (63 - s) ≤ mtN x (n - 1) := Nat.div_mul_le_self _ _
    generalize mtN x (n - 1) / 2 ^ (63 - s) = w at *
    have hb : blen w = s + 1 := blen_of hlo hhi
    have hw0 : 0 < w := Nat.lt_of_lt_of_le (Nat.pow_pos (by decide)) hlo
    have hw64 : w < 18446744073709551616 := Nat.lt_of_lt_of_le hhi (by rw [← p64']; exact Nat.pow_le_pow_right (by decide) (by omega))
    refine Or.inr ⟨by rw [hb, hss]; omega, ?_⟩
    have hn1 := nm_low hw0 (show w < 340282366920938463463374607431768211456 by omega)
    have e : nmW w = w * 2 ^ (63 - s) * 18446744073709551616 := by
      unfold nmW
      rw [hb, show 128 - (s + 1) = (63 - s) + 64 by omega, Nat.pow_add, p64', Nat.mul_assoc]
    have e2 : mxN x (n - 1) % 2 ^ 127 + 170141183460469231731687303715884105728 = mxN x (n - 1) := by
      unfold mxN
      rw [show (2 : Nat) ^ 127 = 170141183460469231731687303715884105728 by decide]
      omega
    have e3 : nmW w ≤ mxN x (n - 1) := by rw [e]; unfold mxN; exact Nat.mul_le_mul_right _ hle
    rcases Nat.lt_or_eq_of_le (show nmW w % 2 ^ 127 ≤ mxN x (n - 1) % 2 ^ 127 by omega) with c | c
    · exact Or.inl c
    · exact Or.inr ⟨c, fun z => z⟩
theorem whole_high {n x : Nat} (hn : Wd n) (hx : 0 < x % 2 ^ (n - 1)) (hs : scI x (n - 1) ≤ 63) (hl : lfR (scI x (n - 1)) (mtN x (n - 1)) ≠ 0) : x % 2 ^ (n - 1) ≤ rdS n (wlN (scI x (n - 1)) (mtN x (n - 1)) + 1) := by
  have g1 := hn.ge
  have g2 := hn.le
  have hw1 : 0 < n - 1 := by omega
  have hmt0 := mt_top x (n - 1)
  have hmt : mtN x (n - 1) < 18446744073709551616 := by
    have := mtN_lt (x := x) hw1 (by omega)
    unfold mtN; omega
  have hs62 : scI x (n - 1) < 63 := by
    rcases Int.lt_or_le (scI x (n - 1)) 63 with c | c
    · exact c
    · exfalso; apply hl; unfold lfR; rw [if_pos c]
  have hpr := pat_round hn hx
  rw [← hpr]
  unfold rdS
  rw [if_neg (by omega)]
  refine rdP_mono hn ?_
  by_cases hneg : scI x (n - 1) < 0
  · refine Or.inl ?_
    have := blen_pos (x := wlN (scI x (n - 1)) (mtN x (n - 1)) + 1) (by omega)
    omega
  · obtain ⟨s, hss⟩ : ∃ s : Nat, scI x (n - 1) = (s : Int) := ⟨(scI x (n - 1)).toNat, by omega⟩
    have hwv : wlN (scI x (n - 1)) (mtN x (n - 1)) = mtN x (n - 1) / 2 ^ (63 - s) := by
      unfold wlN
      rw [hss, if_neg (by omega), show (63 - (s : Int)).toNat = 63 - s by omega]
    rw [hwv]
    have pb : 0 < 2 ^ (63 - s) := Nat.pow_pos (by decide)
    have hlo : 2 ^ s ≤ mtN x (n - 1) / 2 ^ (63 - s) := by
      rw [Nat.le_div_iff_mul_le pb, ← Nat.pow_add, show s + (63 - s) = 63 by omega]; exact hmt0
    have hhi : mtN x (n - 1) / 2 ^ (63 - s) < 2 ^ (s + 1) := by
      rw [Nat.div_lt_iff_lt_mul pb, ← Nat.pow_add, show s + 1 + (63 - s) = 64 by omega, p64']; exact hmt
    have hlt : mtN x (n - 1) < (mtN x (n - 1) / 2 ^ (63 - s) + 1) * 2 ^ (63 - s) := by
      have h1 := Nat.div_add_mod (mtN x (n - 1)) (2 ^ (63 - s))
      have h2 := Nat.mod_lt (mtN x (n - 1)) pb
      rw [Nat.add_mul, Nat.one_mul, Nat.mul_comm]
      omega
    generalize mtN x (n - 1) / 2 ^ (63 - s) = w at *
    have e2 : mxN x (n - 1) % 2 ^ 127 + 170141183460469231731687303715884105728 = mxN x (n - 1) := by
      unfold mxN
      rw [show (2 : Nat) ^ 127 = 170141183460469231731687303715884105728 by decide]
      omega
    by_cases hov : w + 1 < 2 ^ (s + 1)
    · have hb : blen (w + 1) = s + 1 := blen_of (by omega) hov
      have hw64 : w + 1 < 18446744073709551616 := Nat.lt_of_lt_of_le hov (by rw [← p64']; exact Nat.pow_le_pow_right (by decide) (by omega))
      have hn1 := nm_low (v := w + 1) (by omega) (by omega)
      have e : nmW (w + 1) = (w + 1) * 2 ^ (63 - s) * 18446744073709551616 := by
        unfold nmW
        rw [hb, show 128 - (s + 1) = (63 - s) + 64 by omega, Nat.pow_add, p64', Nat.mul_assoc]
      have e3 : mxN x (n - 1) < nmW (w + 1) := by rw [e]; unfold mxN; exact (Nat.mul_lt_mul_right (by decide)).mpr hlt
      exact Or.inr ⟨by rw [hb, hss]; omega, Or.inl (by omega)⟩
    · have hb : blen (w + 1) = s + 1 + 1 := blen_of (by omega) (by rw [Nat.pow_succ]; omega)
      exact Or.inl (by rw [hb, hss]; omega)
/-- A whole number and the next one, both told by patterns just so, are told by two patterns. -/
theorem told_apart {n w : Nat} (hn : Wd n) (hw0 : 0 < w) (hw : w + 1 < 18446744073709551616) (h1 : Told n w) (h2 : Told n (w + 1)) : rdS n w ≠ rdS n (w + 1) := by
  intro he
  obtain ⟨q, a1, a2, a3, a4, a5⟩ := h1
  obtain ⟨q2, b1, b2, b3, b4, b5⟩ := h2
  have hq : q2 = q := by omega
  subst hq
  have hb : blen w = blen (w + 1) := by omega
  have n1 := nm_low hw0 (show w < 340282366920938463463374607431768211456 by omega)
  have n2 := nm_low (v := w + 1) (by omega) (show w + 1 < 340282366920938463463374607431768211456 by omega)
  have e : nmW w = nmW (w + 1) := by omega
  unfold nmW at e
  rw [hb] at e
  have := Nat.eq_of_mul_eq_mul_right (Nat.pow_pos (by decide)) e
  omega
/-- A pattern that tells a whole number is whole. -/
theorem told_whole {n w : Nat} {neg : Bool} (hn : Wd n) (hw0 : 0 < w) (hw : w < 18446744073709551616) (h : Told n w) : Ev (fun k => ints_IsWhole.f k (n : Int) (signN n neg (rdS n w) : Int)) (true, none) := by
  obtain ⟨q, a1, a2, a3, a4, a5⟩ := h
  have hb := blen_pos hw0
  have hb2 := blen_le_of (show w < 2 ^ 64 by rw [p64']; exact hw)
  rw [a3]
  obtain ⟨k1, k2, k3⟩ := sign_real hn neg a1 a2
  have hm : q % 2 ^ (n - 1) = q := Nat.mod_eq_of_lt (by omega)
  have es : scI (abN n (signN n neg q)) (n - 1) = (blen w : Int) - 1 := by rw [sc_congr (y := q) (by rw [k3, hm]), a4]
  have em : mtN (abN n (signN n neg q)) (n - 1) = mtN q (n - 1) := mt_congr (by rw [k3, hm])
  have hmw := mt_word (p := signN n neg q) hn
  rw [em] at hmw
  have hI := IsWhole_real hn (sign_word hn neg a2) k1
  rw [es, em, told_mt hw0 hw a5 hmw] at hI
  have hz : lfR ((blen w : Int) - 1) (w * 2 ^ (64 - blen w)) = 0 := by
    unfold lfR
    by_cases c : 63 ≤ (blen w : Int) - 1
    · rw [if_pos c]
    · rw [if_neg c, show (63 - ((blen w : Int) - 1)).toNat = 64 - blen w by omega]
      exact Nat.mul_mod_left _ _
  rw [hz] at hI
  exact hI
/-- The pattern of nought is whole. -/
theorem zero_whole {n : Nat} (hn : Wd n) (neg : Bool) : Ev (fun k => ints_IsWhole.f k (n : Int) (signN n neg (rdS n 0) : Int)) (true, none) := by
  have e : signN n neg (rdS n 0) = 0 := by
    have : rdS n 0 = 0 := rfl
    rw [this]
    rcases hn with rfl | rfl | rfl | rfl <;> cases neg <;> rfl
  rw [e]
  exact IsWhole_zero hn (by decide) (by unfold kindN; rw [if_pos (Nat.zero_mod _)])
theorem any_whole {n w : Nat} {neg : Bool} (hn : Wd n) (hw : w < 18446744073709551616) (h : 0 < w → Told n w) : Ev (fun k => ints_IsWhole.f k (n : Int) (signN n neg (rdS n w) : Int)) (true, none) := by
  rcases Nat.eq_zero_or_pos w with c | c
  · rw [c]; exact zero_whole hn neg
  · exact told_whole hn c hw (h c)
/-- What a pattern's number is by a mode: below or above. -/
theorem wM_cases (neg : Bool) (sc : Int) (fr : Nat) : (wM neg 1 sc fr = if neg = true ∧ lfR sc fr ≠ 0 then wlN sc fr + 1 else wlN sc fr) ∧ (wM neg 2 sc fr = if neg = false ∧ lfR sc fr ≠ 0 then wlN sc fr + 1 else wlN sc fr) ∧ wM neg 3 sc fr = wlN sc fr ∧ (wM neg 0 sc fr = wlN sc fr ∨ (lfR sc fr ≠ 0 ∧ wM neg 0 sc fr = wlN sc fr + 1)) := by
  have pu : 0 < unR sc := Nat.pow_pos (by decide)
  have e1 : awB neg 1 sc fr = (decide (0 < lfR sc fr) && neg) := by unfold awB; rw [if_neg (show ¬ (1 : Int) = 0 by decide), if_pos rfl]
  have e2 : awB neg 2 sc fr = (decide (0 < lfR sc fr) && !neg) := by unfold awB; rw [if_neg (show ¬ (2 : Int) = 0 by decide), if_neg (show ¬ (2 : Int) = 1 by decide), if_pos rfl]
  have e3 : awB neg 3 sc fr = false := by unfold awB; rw [if_neg (show ¬ (3 : Int) = 0 by decide), if_neg (show ¬ (3 : Int) = 1 by decide), if_neg (show ¬ (3 : Int) = 2 by decide)]
  have e0 : awB neg 0 sc fr = decide (unR sc < 2 * lfR sc fr ∨ (unR sc = 2 * lfR sc fr ∧ wlN sc fr % 2 = 1)) := by unfold awB; rw [if_pos rfl]
  refine ⟨?_, ?_, ?_, ?_⟩
  · unfold wM
    rw [e1]
    cases neg <;> by_cases c : lfR sc fr = 0 <;> simp [c] <;> omega
  · unfold wM
    rw [e2]
    cases neg <;> by_cases c : lfR sc fr = 0 <;> simp [c] <;> omega
  · unfold wM
    rw [e3, if_neg (by decide)]
  · unfold wM
    rw [e0]
    by_cases c : unR sc < 2 * lfR sc fr ∨ (unR sc = 2 * lfR sc fr ∧ wlN sc fr % 2 = 1)
    · right
      rw [decide_eq_true c, if_pos rfl]
      exact ⟨by omega, rfl⟩
    · left
      rw [decide_eq_false c, if_neg (by decide)]
end Go.Proofs.YtlllaoihpkdpmaaDoor.M
