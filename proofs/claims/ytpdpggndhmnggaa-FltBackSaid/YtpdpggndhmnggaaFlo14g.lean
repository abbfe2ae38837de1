/- Patterns come back from floats; a pattern changed into its own width is itself. -/
import Derived.Test.YtpdpggndhmnggaaF8g
import Derived.Test.YtpdpggndhmnggaaF9g
import Derived.Test.YtpdpggndhmnggaaF10g
import Derived.Test.YtpdpggndhmnggaaF12g
import Derived.Test.YtpdpggndhmnggaaF13g
import Derived.Test.YtpdpggndhmnggaaF27g
import Derived.Test.YtpdpggndhmnggaaFlo13g
namespace Go.Proofs.Ytpdpggndhmnggaa.M
open Go.RowKit Go.Proofs.YtpdpggndhmnggaaW.PrintWords Go.Proofs.YtpdpggndhmnggaaW.PrintLast Go.Proofs.YtpdpggndhmnggaaW.PrintMore Go.Proofs.Ytpdpggndhmnggaa.F
set_option linter.unusedVariables false
set_option linter.unusedSimpArgs false
theorem rdN_own {n p : Nat} (hn : Wd n) (hp : p < 18446744073709551616) (hk : kindN n p = 1) : rdN n (topB p n) (scI (abN n p) (n - 1)) (mxN (abN n p) (n - 1)) false = p % 2 ^ n := by
  unfold rdN
  rw [pat_round hn (ab_pos hn hp hk), sign_back hn hp hk]
theorem Convert_ev {n p : Nat} (hn : Wd n) (hp : p < 18446744073709551616) : Ev (fun k => gen_Convert.f k (n : Int) (n : Int) (p : Int)) (((p % 2 ^ n : Nat) : Int), none) := by
  unfold gen_Convert.f
  refine Ev.bindp (Of_eq hn) (Ev.congr (fun k => if_pos rfl) (Ev.bind (Decode_ev hn hp) ?_))
  rcases kind_cases n p with ⟨hk, hz⟩ | ⟨hk, hz⟩ | hk
  · have e : meansT n p (none : Option Int) = (0, false, 0, 0, none) := by unfold meansT; rw [if_neg (by rw [hk]; decide), hk]
    rw [e, hz]
    have ho : Ev (fun k => round_Of.f k 0 false 0 0) (0, false, 0, 0, 0, false, none) := by
      unfold round_Of.f
      exact Ev.bind (sound_zero (Or.inl rfl)) (Ev.congr (fun k => (if_pos rfl).trans ((if_neg (by decide)).trans (if_neg (by decide)))) (Ev.now _))
    refine Ev.congr (fun k => if_pos rfl) (Ev.bind ho (Ev.bind (Round_zero hn) ?_))
    exact Ev.now _
  · have e : meansT n p (none : Option Int) = (2, false, 0, 0, none) := by unfold meansT; rw [if_neg (by rw [hk]; decide), hk]
    rw [e, hz]
    have ho : Ev (fun k => round_Of.f k 2 false 0 0) (2, false, 0, 0, 0, false, none) := by
      unfold round_Of.f
      exact Ev.bind (sound_zero (Or.inr rfl)) (Ev.congr (fun k => (if_pos rfl).trans ((if_neg (by decide)).trans (if_neg (by decide)))) (Ev.now _))
    refine Ev.congr (fun k => if_pos rfl) (Ev.bind ho (Ev.bind (Round_nar hn) ?_))
    exact Ev.now _
  · rw [means_real hk]
    obtain ⟨s0, s1⟩ := @sc_real n p hn
    have f0 := mt_ge (abN n p) (n - 1)
    have f1 := mt_word (n := n) (p := p) hn
    have hr := rdN_own hn hp hk
    unfold mxN at hr
    generalize scI (abN n p) (n - 1) = sc at *
    generalize mtN (abN n p) (n - 1) = fr at *
    have ho : Ev (fun k => round_Of.f k 1 (topB p n) sc (fr : Int)) (1, topB p n, sc, (fr : Int), 0, false, none) := by
      unfold round_Of.f
      have hs := sound_real (neg := topB p n) (rest := false) (sc := sc) (h := fr) (l := 0) (by omega) (by omega) f0 f1
      exact Ev.bind hs (Ev.congr (fun k => (if_pos rfl).trans ((if_neg (by omega)).trans (if_neg (by omega)))) (Ev.now _))
    have hR := Round_real (neg := topB p n) (rest := false) (sc := sc) (h := fr) (l := 0) hn (by omega) (by omega) f0 f1 (by decide)
    have ht : tw fr 0 = fr * 18446744073709551616 := by unfold tw; omega
    rw [ht, hr] at hR
    refine Ev.congr (fun k => if_pos rfl) (Ev.bind ho (Ev.bind hR ?_))
    exact Ev.now _
theorem toD_parts {sc : Int} {c : Nat} (s0 : -1022 ≤ sc) (s1 : sc ≤ 1022) (h1 : 4503599627370496 ≤ c) (h2 : c < 9007199254740992) : mD ((sc + 1022).toNat * 4503599627370496 + c) = c ∧ pD ((sc + 1022).toNat * 4503599627370496 + c) = sc - 52 := by
  obtain ⟨r1, r2, r3, r4⟩ := wordD_read (M := c) (P := sc - 52) h1 h2 (by omega) (by omega)
  unfold wordD at r3 r4
  rw [show sc - 52 + 1074 = sc + 1022 by omega] at r3 r4
  exact ⟨r3, r4⟩
/-- A number of 53 digits behind its scale is rounded as the same number at the top of 128 bits. -/
theorem szF_toD {n : Nat} {sc : Int} {c : Nat} (s0 : -1022 ≤ sc) (s1 : sc ≤ 1022) (h1 : 4503599627370496 ≤ c) (h2 : c < 9007199254740992) : szF n ((sc + 1022).toNat * 4503599627370496 + c) = rdP n sc (c * 2 ^ 75) false := by
  obtain ⟨e1, e2⟩ := toD_parts s0 s1 h1 h2
  unfold szF rd53
  rw [if_neg (by omega), e1, e2, show sc - 52 + 52 = sc by omega]
theorem p75 : (2 : Nat) ^ 75 = 37778931862957161709568 := by decide
theorem cut_clean {fr k : Nat} (hk : 1 ≤ k) (h : fr % 2 ^ k = 0) : cutN fr k = fr / 2 ^ k := by
  have hp : 0 < 2 ^ (k - 1) := Nat.pow_pos (by decide)
  unfold cutN
  rw [h, if_neg (by omega)]; rfl
/-- Where nothing is cut off, the pattern comes back. -/
theorem back_exact {n p : Nat} (hn : Wd n) (hp : p < 18446744073709551616) (hk : kindN n p = 1) (h : mtN (abN n p) (n - 1) % 2048 = 0) : rdF n (toT n p) = p % 2 ^ n := by
  have hr := rdN_own hn hp hk
  have hf := toT_fin (p := p) hn (by rw [hk]; decide)
  rw [rdF_sz hn hf.2.1, ← hr]
  obtain ⟨s0, s1⟩ := @sc_real n p hn
  have f0 := mt_ge (abN n p) (n - 1)
  have f1 := mt_word (n := n) (p := p) hn
  unfold rdN mxN toT
  rw [if_pos hk]
  generalize scI (abN n p) (n - 1) = sc at *
  generalize mtN (abN n p) (n - 1) = fr at *
  have hl := (toD_lt (sc := sc) (by omega) (by omega) f0 f1).1
  have hc : cutN fr 11 = fr / 2048 := cut_clean (k := 11) (by decide) h
  have hsz : szF n (toD sc fr) = rdP n sc (fr * 18446744073709551616) false := by
    unfold toD
    rw [hc, szF_toD (by omega) (by omega) (by omega) (by omega), p75, show fr / 2048 * 37778931862957161709568 = fr * 18446744073709551616 by omega]
  generalize toD sc fr = D at *
  cases topB p n
  · rw [if_neg (by decide), Nat.zero_add, Nat.mod_eq_of_lt (by omega), Nat.div_eq_of_lt (by omega), hsz]; rfl
  · rw [if_pos rfl, show (9223372036854775808 + D) % 9223372036854775808 = D by omega, show (9223372036854775808 + D) / 9223372036854775808 = 1 by omega, hsz]; rfl
/-- A number of 53 digits whose run is short is a pattern's of 64 bits. -/
theorem fits_53 {sc : Int} {M : Nat} (h1 : 4503599627370496 ≤ M) (h2 : M < 9007199254740992) (hr : runS sc ≤ 8) : ∃ q, 0 < q ∧ q ≤ 9223372036854775807 ∧ rdP 64 sc (M * 2 ^ 75) false = q ∧ scI q 63 = sc ∧ mtN q 63 = M * 2048 := by
  have hsc : -248 ≤ sc ∧ sc < 248 := by unfold runS at hr; split at hr <;> omega
  have w : Wd 64 := by unfold Wd; decide
  have e0 : M * 2 ^ 75 % 2 ^ 127 = (M - 4503599627370496) * 2 ^ 75 := by
    rw [p75, show (2 : Nat) ^ 127 = 170141183460469231731687303715884105728 by decide]; omega
  have hy : yN sc (M * 2 ^ 75) = (hsN sc * 2 ^ (60 - runS sc) + (M - 4503599627370496) * 2 ^ (8 - runS sc)) * 2 ^ (257 - 64) := by
    have e3 : 2 ^ 75 * 2 ^ (126 - runS sc) = 2 ^ (8 - runS sc) * 2 ^ (257 - 64) := by rw [← Nat.pow_add, ← Nat.pow_add, show 75 + (126 - runS sc) = 8 - runS sc + (257 - 64) by omega]
    have e4 : 2 ^ (253 - runS sc) = 2 ^ (60 - runS sc) * 2 ^ (257 - 64) := by rw [← Nat.pow_add, show 60 - runS sc + (257 - 64) = 253 - runS sc by omega]
    rw [y_head hsc.1 (by omega), e0, e4, Nat.mul_assoc (M - 4503599627370496), e3, Nat.add_mul, Nat.mul_assoc, Nat.mul_assoc]
  generalize hsN sc * 2 ^ (60 - runS sc) + (M - 4503599627370496) * 2 ^ (8 - runS sc) = q at hy
  have er : rdP 64 sc (M * 2 ^ 75) false = q := by rw [rdP_mid w (by omega) (by omega), hy, rh_exact w]
  have hq := rdP_range w sc (M * 2 ^ 75) false
  rw [er, show 2 ^ (64 - 1) - 1 = 9223372036854775807 from rfl] at hq
  have hm : q % 2 ^ (64 - 1) = q := Nat.mod_eq_of_lt (by rw [show (2 : Nat) ^ (64 - 1) = 9223372036854775808 from rfl]; omega)
  obtain ⟨b1, b2⟩ := y_pat (n := 64) (x := q) (sc := sc) (m := M * 2 ^ 75) w (by rw [hm]; exact hq.1) (by omega) (by omega) (by rw [hm]; exact hy)
  refine ⟨q, hq.1, hq.2, er, b1, ?_⟩
  rw [e0] at b2
  have m0 := mt_ge q 63
  have m1 : mtN q 63 < 18446744073709551616 := by
    have := mtN_lt (x := q) (w := 63) (by decide) (by decide)
    unfold mtN; omega
  have e63 : mxN q (64 - 1) = mtN q 63 * 18446744073709551616 := rfl
  rw [e63, p75, show (2 : Nat) ^ 127 = 170141183460469231731687303715884105728 by decide] at b2
  generalize mtN q 63 = m at *
  clear hy er e0 b1 e63 hm
  omega
theorem sc_congr {x y w : Nat} (h : x % 2 ^ w = y % 2 ^ w) : scI x w = scI y w := by unfold scI; rw [rg_congr h, exN_congr h]
theorem mt_congr {x y w : Nat} (h : x % 2 ^ w = y % 2 ^ w) : mtN x w = mtN y w := by unfold mtN; rw [frN_congr h, fb_congr h]
theorem sign_real {n q : Nat} (hn : Wd n) (neg : Bool) (h0 : 0 < q) (hq : q ≤ 2 ^ (n - 1) - 1) : kindN n (signN n neg q) = 1 ∧ topB (signN n neg q) n = neg ∧ abN n (signN n neg q) % 2 ^ (n - 1) = q := by
  rcases hn with rfl | rfl | rfl | rfl <;> cases neg <;> simp only [kindN, topB, abN, signN, ngN, Nat.reduceSub, Nat.reducePow, Bool.false_eq_true, ↓reduceIte] at hq ⊢ <;> (refine ⟨?_, ?_, ?_⟩ <;> (try simp only [decide_eq_true_eq, decide_eq_false_iff_not]) <;> (repeat split) <;> omega)
theorem frac_whole {x w : Nat} (hw : 0 < w) (h : w ≤ 63) {s : Nat} (hs : s ≤ 63) (hf : fbN x w ≤ s) : mtN x w % 2 ^ (63 - s) = 0 := by
  have hfb := fb_le (x := x) hw
  unfold mtN
  rw [show (9223372036854775808 : Nat) = 2 ^ s * 2 ^ (63 - s) by rw [← Nat.pow_add, show s + (63 - s) = 63 by omega]]
  rw [show 63 - fbN x w = (s - fbN x w) + (63 - s) by omega, Nat.pow_add, ← Nat.mul_assoc, ← Nat.add_mul]
  exact Nat.mul_mod_left _ _
theorem run_fb {x w : Nat} (hw : 0 < w) (h : 0 < fbN x w) : runN x w + fbN x w + 3 = w := by
  have hr := runN_le x w
  have hl : lfN x w = w - runN x w - 1 := rfl
  have hs := lf_split x w
  have he : ebN x w = min (lfN x w) 2 := rfl
  omega
theorem toT_congr {n p q : Nat} (hn : Wd n) (hp : p < 18446744073709551616) (hq : q < 18446744073709551616) (e : p % 2 ^ n = q % 2 ^ n) : toT n p = toT n q := by
  have hab := ab_congr hn hp hq e
  have hk : kindN n p = kindN n q := by unfold kindN; rw [e]
  have ht : topB p n = topB q n := by unfold topB; rw [e]
  unfold toT
  rw [hk, ht, sc_congr hab, mt_congr hab]
theorem back64 {n p : Nat} (hn : Wd n) (hp : p < 18446744073709551616) (hk : kindN n p = 1) : ∃ q : Nat, q < 18446744073709551616 ∧ rdF n (toT n p) = q ∧ (n ≤ 32 → q = p % 2 ^ n) ∧ toT n q = toT n p := by
  by_cases h : mtN (abN n p) (n - 1) % 2048 = 0
  · have hq := mod_lt64 hn p
    exact ⟨p % 2 ^ n, hq, back_exact hn hp hk h, fun _ => rfl, toT_congr hn hq hp (Nat.mod_mod _ _)⟩
  · have g1 := hn.le
    have g2 := hn.ge
    have hfb := fb_le (x := abN n p) (w := n - 1) (by omega)
    have f53 : 53 ≤ fbN (abN n p) (n - 1) := by
      rcases Nat.lt_or_ge 52 (fbN (abN n p) (n - 1)) with d | d
      · exact d
      · exact absurd (frac_whole (x := abN n p) (w := n - 1) (by omega) (by omega) (s := 52) (by decide) d) h
    have h64 : n = 64 := by rcases hn with rfl | rfl | rfl | rfl <;> omega
    subst h64
    have hrun := run_fb (x := abN 64 p) (w := 64 - 1) (by decide) (by omega)
    have hS := (scale_div (x := abN 64 p) (w := 64 - 1) (by decide)).2.2.1
    have hr7 : runS (scI (abN 64 p) (64 - 1)) ≤ 7 := by rw [hS]; omega
    have f0 := mt_ge (abN 64 p) (64 - 1)
    have f1 := mt_word (n := 64) (p := p) hn
    have hf := toT_fin (p := p) hn (by rw [hk]; decide)
    have e0 : toT 64 p = (if topB p 64 = true then 9223372036854775808 else 0) + toD (scI (abN 64 p) (64 - 1)) (mtN (abN 64 p) (64 - 1)) := by unfold toT; rw [if_pos hk]
    have e1 := rdF_sz hn hf.2.1
    generalize topB p 64 = s at *
    generalize scI (abN 64 p) (64 - 1) = sc at *
    generalize mtN (abN 64 p) (64 - 1) = fr at *
    have hsc : -100 ≤ sc ∧ sc ≤ 100 := by unfold runS at hr7; split at hr7 <;> omega
    have hl := (toD_lt (sc := sc) (by omega) (by omega) f0 f1).1
    obtain ⟨c1, c2⟩ := cut11 f0 f1
    obtain ⟨sd, M, m1, m2, hr8, hD, hsd⟩ : ∃ (sd : Int) (M : Nat), 4503599627370496 ≤ M ∧ M < 9007199254740992 ∧ runS sd ≤ 8 ∧ toD sc fr = (sd + 1022).toNat * 4503599627370496 + M ∧ (-101 ≤ sd ∧ sd ≤ 101) := by
      by_cases c : cutN fr 11 = 9007199254740992
      · refine ⟨sc + 1, 4503599627370496, by decide, by decide, ?_, ?_, by omega⟩
        · unfold runS at hr7 ⊢
          split at hr7 <;> split <;> omega
        · unfold toD; rw [c]; omega
      · exact ⟨sc, cutN fr 11, c1, by omega, by omega, rfl, by omega⟩
    obtain ⟨q, q1, q2, q3, q4, q5⟩ := fits_53 m1 m2 hr8
    have hz : szF 64 (toD sc fr) = q := by rw [hD, szF_toD (by omega) (by omega) m1 m2, q3]
    have e2 : rdF 64 (toT 64 p) = signN 64 s q := by
      rw [e1, e0]
      generalize toD sc fr = D at *
      cases s
      · rw [if_neg (by decide), Nat.zero_add, Nat.mod_eq_of_lt (by omega), Nat.div_eq_of_lt (by omega), hz]; rfl
      · rw [if_pos rfl, show (9223372036854775808 + D) % 9223372036854775808 = D by omega, show (9223372036854775808 + D) / 9223372036854775808 = 1 by omega, hz]; rfl
    have hq' : q ≤ 2 ^ (64 - 1) - 1 := q2
    obtain ⟨k1, k2, k3⟩ := sign_real hn s q1 hq'
    have hm : q % 2 ^ (64 - 1) = q := Nat.mod_eq_of_lt (Nat.lt_of_le_of_lt q2 (by decide))
    have k4 : abN 64 (signN 64 s q) % 2 ^ (64 - 1) = q % 2 ^ (64 - 1) := by rw [hm]; exact k3
    refine ⟨signN 64 s q, sign_word hn s hq', e2, fun h => absurd h (by decide), ?_⟩
    have q4' : scI q (64 - 1) = sd := q4
    have q5' : mtN q (64 - 1) = M * 2048 := q5
    rw [e0, hD]
    unfold toT
    rw [if_pos k1, k2, sc_congr k4, mt_congr k4, q4', q5']
    unfold toD
    rw [cut_clean (k := 11) (by decide) (Nat.mul_mod_left _ _), show M * 2048 / 2 ^ 11 = M from Nat.mul_div_cancel _ (by decide)]
/-- .. and from float32, of the widths up to 16. -/
theorem back32 {n p : Nat} (hn : Wd n) (hp : p < 18446744073709551616) (h16 : n ≤ 16) (hk : kindN n p = 1) : toS n p % 2147483648 < 2139095040 ∧ toS n p < 4294967296 ∧ rd32 n (toS n p) = p % 2 ^ n := by
  have hr := rdN_own hn hp hk
  have g2 := hn.ge
  have hfb := fb_le (x := abN n p) (w := n - 1) (by omega)
  have hz : mtN (abN n p) (n - 1) % 2 ^ 40 = 0 := frac_whole (x := abN n p) (w := n - 1) (by omega) (by omega) (s := 23) (by decide) (by omega)
  have hse := sc_ends hn (ab_pos hn hp hk)
  have f0 := mt_ge (abN n p) (n - 1)
  have f1 := mt_word (n := n) (p := p) hn
  rw [← hr]
  unfold rdN mxN toS
  rw [if_pos hk]
  generalize scI (abN n p) (n - 1) = sc at *
  generalize mtN (abN n p) (n - 1) = fr at *
  rw [show (2 : Nat) ^ 40 = 1099511627776 by decide] at hz
  have hc : cutN fr 40 = fr / 1099511627776 := cut_clean (k := 40) (by decide) hz
  have hw : toW sc fr = (sc + 127).toNat * 8388608 + (fr / 1099511627776 - 8388608) := by
    have ek : kS sc = 40 := by unfold kS; rw [if_neg (by omega)]
    unfold toW
    rw [if_neg (by omega), ek, if_neg (by decide), if_pos (by omega), hc]
    omega
  obtain ⟨c, hcd⟩ : ∃ c : Nat, c = fr / 1099511627776 := ⟨_, rfl⟩
  rw [← hcd] at hw
  have hc1 : 8388608 ≤ c ∧ c < 16777216 := by omega
  have hfc : fr = c * 1099511627776 := by omega
  obtain ⟨E, hE⟩ : ∃ E : Nat, E = (sc + 127).toNat := ⟨_, rfl⟩
  have hE1 : 1 ≤ E ∧ E ≤ 253 := by omega
  rw [← hE] at hw
  have hb24 : blen c = 24 := blen_unique (by omega) (Or.inr (by omega))
  have main : ∀ s : Bool, rdV n s (-149 + ((E * 8388608 + (c - 8388608)) / 8388608 - 1 : Nat)) (8388608 + (E * 8388608 + (c - 8388608)) % 8388608) = signN n s (rdP n sc (fr * 18446744073709551616) false) := by
    intro s
    rw [show (E * 8388608 + (c - 8388608)) / 8388608 = E by omega, show 8388608 + (E * 8388608 + (c - 8388608)) % 8388608 = c by omega]
    unfold rdV rdN nmW
    rw [if_neg (by omega), hb24, hfc, show -149 + ((E - 1 : Nat) : Int) + ((24 : Nat) : Int) - 1 = sc by omega]
    have : c * 2 ^ (128 - 24) = c * 1099511627776 * 18446744073709551616 := by rw [show (2 : Nat) ^ (128 - 24) = 20282409603651670423947251286016 by decide]; omega
    rw [this]
  rw [hw]
  clear hz hr hfb hse hcd hc hw hfc
  have hX : E * 8388608 + (c - 8388608) < 2139095040 ∧ 8388608 ≤ E * 8388608 + (c - 8388608) := by omega
  generalize E * 8388608 + (c - 8388608) = X at *
  unfold rd32 m32 e32
  cases topB p n
  · rw [if_neg (by decide), Nat.zero_add]
    rw [show X % 2147483648 = X by omega, show X / 2147483648 % 2 = 0 by omega]
    rw [if_neg (by omega), if_neg (by omega), if_neg (by omega)]
    exact ⟨hX.1, by omega, main false⟩
  · rw [if_pos rfl]
    rw [show (2147483648 + X) % 2147483648 = X by omega, show (2147483648 + X) / 2147483648 % 2 = 1 by omega]
    rw [if_neg (by omega), if_neg (by omega), if_neg (by omega)]
    exact ⟨hX.1, by omega, main true⟩
end Go.Proofs.Ytpdpggndhmnggaa.M
