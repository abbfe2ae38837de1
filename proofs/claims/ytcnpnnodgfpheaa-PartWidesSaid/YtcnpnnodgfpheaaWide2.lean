/- What part.Wide computes behind its guess. -/
import Derived.Test.YtcnpnnodgfpheaaF3
import Derived.Test.YtcnpnnodgfpheaaRoot
import Derived.Test.YtcnpnnodgfpheaaDiv64
import Derived.Test.YtcnpnnodgfpheaaWide
namespace Go.Proofs.Ytcnpnnodgfpheaa.M
open Go.RowKit Go.Proofs.YtcnpnnodgfpheaaW.PrintWords Go.Proofs.YtcnpnnodgfpheaaW.PrintLast Go.Proofs.YtcnpnnodgfpheaaW.PrintMore Go.Proofs.Ytcnpnnodgfpheaa.F
set_option linter.unusedVariables false
set_option linter.unusedSimpArgs false

theorem ptimes_eq {bh bl q : Nat} (h2 : bh < 18446744073709551616) (h3 : bl < 18446744073709551616) (hq : q < 18446744073709551616) : part_times.f (bh : Int) (bl : Int) (q : Int) = some (hi (tw bh bl * q), lo (tw bh bl * q)) := by
  unfold part_times.f
  rw [Mul_eq h3 hq, Option.bind_some]
  have e : tw bh bl * q = bh * q * 18446744073709551616 + bl * q := by unfold tw; rw [Nat.add_mul, Nat.mul_right_comm]
  rw [e, ← Int.natCast_mul]
  unfold hi lo
  generalize bh * q = A
  generalize bl * q = C
  have e1 : IntKind.u64.wrap (((C / 18446744073709551616 % 18446744073709551616 : Nat) : Int) + IntKind.u64.wrap (A : Int)) = (((A * 18446744073709551616 + C) / 18446744073709551616 % 18446744073709551616 : Nat) : Int) := by rw [u64w, u64w]; omega
  have e2 : ((C % 18446744073709551616 : Nat) : Int) = (((A * 18446744073709551616 + C) % 18446744073709551616 : Nat) : Int) := by omega
  rw [e1, e2]
theorem Sub_two {bh bl t : Nat} (h2 : bh < 18446744073709551616) (h3 : bl < 18446744073709551616) (ht : t < 340282366920938463463374607431768211456) (g : tw bh bl ≤ t) : twin_Sub.f (hi t) (lo t) (bh : Int) (bl : Int) = some (hi (t - tw bh bl), lo (t - tw bh bl), false) := by
  have hb := tw_lt h2 h3
  have e := Sub_eq (hl_lt t) (ll_lt t) h2 h3
  rw [tw_hl, Nat.mod_eq_of_lt ht] at e
  rw [show hi (t + 340282366920938463463374607431768211456 - tw bh bl) = hi (t - tw bh bl) from hi_of (by omega), show lo (t + 340282366920938463463374607431768211456 - tw bh bl) = lo (t - tw bh bl) from lo_of (by omega), show decide (t < tw bh bl) = false from decide_eq_false (by omega)] at e
  exact e
theorem Wide_j0 {ah al bh bl q : Nat} (h0 : ah < 18446744073709551616) (h1 : al < 18446744073709551616) (h2 : bh < 18446744073709551616) (h3 : bl < 18446744073709551616) (hq : q < 18446744073709551615)
    (hle : tw bh bl * q ≤ tw ah al) (hlt : tw ah al < tw bh bl * (q + 2)) :
    Ev (fun k => part_Wide.j0 k (q : Int) (ah : Int) (al : Int) (bh : Int) (bl : Int)) (0, ((tw ah al / tw bh bl : Nat) : Int), hi (tw ah al % tw bh bl), lo (tw ah al % tw bh bl), none) := by
  have hv := tw_lt h0 h1
  have hs := Sub_le h0 h1 hle
  have hc := Cmp_pr (t := tw ah al - tw bh bl * q) h2 h3 (Nat.lt_of_le_of_lt (Nat.sub_le _ _) hv)
  by_cases g : tw bh bl ≤ tw ah al - tw bh bl * q
  · have hle2 : tw bh bl * (q + 1) ≤ tw ah al := by rw [Nat.mul_succ]; exact (Nat.le_sub_iff_add_le' hle).mp g
    have hQ : tw ah al / tw bh bl = q + 1 := Nat.div_eq_of_lt_le (by rw [Nat.mul_comm]; exact hle2) (by rw [Nat.mul_comm]; exact hlt)
    have hR : tw ah al % tw bh bl = tw ah al - tw bh bl * q - tw bh bl := by
      rw [Nat.mod_eq_sub_mul_div, hQ, Nat.mul_succ, Nat.sub_sub]
    have ht := Nat.lt_of_le_of_lt (Nat.sub_le (tw ah al) (tw bh bl * q)) hv
    have hc0 : cmp (tw ah al - tw bh bl * q) (tw bh bl) ≥ 0 := by
      have h_ := cmp_ge (tw ah al - tw bh bl * q) (tw bh bl)
      rw [decide_eq_true g] at h_; exact of_decide_eq_true h_
    have hs2 := Sub_two h2 h3 ht g
    have hw := wn (a := q + 1) (by omega)
    rw [hQ, hR]
    refine Ev.step (f := fun k => some (0, ((q + 1 : Nat) : Int), hi (tw ah al - tw bh bl * q - tw bh bl), lo (tw ah al - tw bh bl * q - tw bh bl), none)) (fun k => ?_) (Ev.now _)
    simp only [part_Wide.j0]
    rw [ptimes_eq h2 h3 (by omega), Option.bind_some, hs, Option.bind_some, hc, Option.bind_some, if_pos hc0, hs2, Option.bind_some]
    rw [show IntKind.u64.wrap ((q : Int) + 1) = ((q + 1 : Nat) : Int) from hw]
  · have hQ : tw ah al / tw bh bl = q := Nat.div_eq_of_lt_le (by rw [Nat.mul_comm]; exact hle) (by
      rw [Nat.mul_comm, Nat.mul_succ]; exact (Nat.sub_lt_iff_lt_add' hle).mp (Nat.lt_of_not_le g))
    have hR : tw ah al % tw bh bl = tw ah al - tw bh bl * q := by rw [Nat.mod_eq_sub_mul_div, hQ]
    have hc0 : ¬ cmp (tw ah al - tw bh bl * q) (tw bh bl) ≥ 0 := by
      have h_ := cmp_ge (tw ah al - tw bh bl * q) (tw bh bl)
      rw [decide_eq_false g] at h_; exact of_decide_eq_false h_
    rw [hQ, hR]
    refine Ev.step (f := fun k => some (0, (q : Int), hi (tw ah al - tw bh bl * q), lo (tw ah al - tw bh bl * q), none)) (fun k => ?_) (Ev.now _)
    simp only [part_Wide.j0]
    rw [ptimes_eq h2 h3 (by omega), Option.bind_some, hs, Option.bind_some, hc, Option.bind_some, if_neg hc0]
theorem top_bounds {bh bl : Nat} (h2 : bh < 18446744073709551616) (h3 : bl < 18446744073709551616) (hb : 0 < bh) : tw bh bl * 2 ^ (64 - blen bh) < 340282366920938463463374607431768211456 ∧ 9223372036854775808 ≤ tw bh bl * 2 ^ (64 - blen bh) / 18446744073709551616 := by
  obtain ⟨hn, hV64, hV63⟩ := norm_bounds hb h2
  have h4 := blen_le_of (show bh < 2 ^ 64 by rw [p64]; exact h2)
  have e : 2 ^ blen bh * 2 ^ (64 - blen bh) = 18446744073709551616 := by rw [← Nat.pow_add, show blen bh + (64 - blen bh) = 64 by omega, p64]
  have h1 : bh + 1 ≤ 2 ^ blen bh := lt_blen bh
  have hp : 0 < 2 ^ (64 - blen bh) := Nat.pow_pos (by decide)
  have hbb : tw bh bl < (bh + 1) * 18446744073709551616 := by unfold tw; omega
  have hlow : bh * 18446744073709551616 ≤ tw bh bl := by unfold tw; omega
  constructor
  · refine Nat.lt_of_lt_of_le (Nat.mul_lt_mul_of_pos_right hbb hp) ?_
    rw [Nat.mul_right_comm]
    exact Nat.le_trans (Nat.mul_le_mul_right _ (Nat.mul_le_mul_right _ h1)) (by rw [e]; decide)
  · refine (Nat.le_div_iff_mul_le (by decide)).mpr (Nat.le_trans (Nat.mul_le_mul_right _ hV63) ?_)
    rw [Nat.mul_right_comm]; exact Nat.mul_le_mul_right _ hlow
theorem Wide_ev {ah al bh bl : Nat} (h0 : ah < 18446744073709551616) (h1 : al < 18446744073709551616) (h2 : bh < 18446744073709551616) (h3 : bl < 18446744073709551616) (hb : 0 < bh) :
    Ev (fun k => part_Wide.f k (ah : Int) (al : Int) (bh : Int) (bl : Int)) (0, ((tw ah al / tw bh bl : Nat) : Int), hi (tw ah al % tw bh bl), lo (tw ah al % tw bh bl), none) := by
  obtain ⟨hn, _, _⟩ := norm_bounds hb h2
  obtain ⟨hT, hT63⟩ := top_bounds h2 h3 hb
  have hv := tw_lt h0 h1
  have hshl := Shl_eq h2 h3 (64 - blen bh)
  have hlz := LeadingZeros64_ev h2
  generalize 64 - blen bh = n at hn hT hT63 hshl hlz
  rw [show min n 128 = n by omega] at hshl
  have hshr := Shr_eq h0 h1 1
  rw [show min 1 128 = 1 by decide, Nat.pow_one] at hshr
  have hy : tw bh bl * 2 ^ n / 18446744073709551616 % 18446744073709551616 = tw bh bl * 2 ^ n / 18446744073709551616 := Nat.mod_eq_of_lt ((Nat.div_lt_iff_lt_mul (by decide)).mpr hT)
  have hu2 : tw ah al / 2 / 18446744073709551616 % 18446744073709551616 < tw bh bl * 2 ^ n / 18446744073709551616 % 18446744073709551616 := by
    rw [hy]
    generalize tw bh bl * 2 ^ n / 18446744073709551616 = V1 at hT63
    generalize tw ah al = u at hv
    clear hshl hlz hshr hT hy
    omega
  have hdiv := Div64_ev hu2 (ll_lt (tw ah al / 2)) (Nat.mod_lt _ (by decide))
  have e1 : tw ah al / 2 / (tw bh bl * 2 ^ n / 18446744073709551616 % 18446744073709551616) = tw ah al / 2 / (tw bh bl * 2 ^ n / 18446744073709551616) := by rw [hy]
  rw [tw_hl, Nat.mod_eq_of_lt (Nat.lt_of_le_of_lt (Nat.div_le_self _ _) hv), e1] at hdiv
  obtain ⟨w1, w2⟩ := wide_est (v := tw bh bl) hv hn hT63
  have hv0 : 0 < tw bh bl := by unfold tw; omega
  have hq64 : tw ah al / 2 / (tw bh bl * 2 ^ n / 18446744073709551616) < 18446744073709551616 := by
    refine (Nat.div_lt_iff_lt_mul (Nat.lt_of_lt_of_le (by decide) hT63)).mpr ?_
    generalize tw bh bl * 2 ^ n / 18446744073709551616 = V1 at hT63
    generalize tw ah al = u at hv
    clear hshl hlz hshr hT hy hdiv hu2 w1 w2 e1
    omega
  have es : wrap64 (63 - (n : Int)) = ((63 - n : Nat) : Int) := by rw [w64 (by omega) (by omega)]; omega
  have hsh := shr_nat hq64 (63 - n)
  unfold part_Wide.f
  refine Ev.congr (fun k => if_neg (by omega)) (Ev.bind hlz (Ev.bind hshl (Ev.bindp hshr (Ev.bind hdiv ?_))))
  refine Ev.congr (fun k => if_pos (show 0 ≤ wrap64 (63 - (n : Int)) by rw [es]; exact Int.natCast_nonneg _)) ?_
  simp only [es, hsh]
  have hg64 := Nat.lt_of_le_of_lt (Nat.div_le_self (tw ah al / 2 / (tw bh bl * 2 ^ n / 18446744073709551616)) (2 ^ (63 - n))) hq64
  generalize tw ah al / 2 / (tw bh bl * 2 ^ n / 18446744073709551616) / 2 ^ (63 - n) = g at w1 w2 hg64 ⊢
  have hl := Nat.lt_mul_div_succ (tw ah al) hv0
  cases g with
  | zero =>
    refine Ev.congr (fun k => if_neg (by decide)) (Wide_j0 h0 h1 h2 h3 (by decide) (Nat.zero_le _) ?_)
    exact Nat.lt_of_lt_of_le hl (Nat.mul_le_mul_left _ (Nat.succ_le_succ (Nat.le_trans w1 (by decide))))
  | succ g =>
    have ew : IntKind.u64.wrap (((g + 1 : Nat) : Int) - 1) = (g : Int) := wdec (by clear hl hdiv hsh w1 w2 hshl; omega)
    refine Ev.congr (fun k => if_pos (Int.natCast_pos.mpr (Nat.succ_pos g))) ?_
    rw [ew]
    refine Wide_j0 h0 h1 h2 h3 (by clear hl hdiv hsh w1 w2 hshl; omega) ?_ ?_
    · rw [Nat.mul_comm]; exact (Nat.le_div_iff_mul_le hv0).mp w2
    · exact Nat.lt_of_lt_of_le hl (Nat.mul_le_mul_left _ (Nat.succ_le_succ w1))
end Go.Proofs.Ytcnpnnodgfpheaa.M
