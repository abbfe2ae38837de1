/- What the reference's naturals compute, second part: Mul, Shl, Shr, Low, Word, Bits. -/
import Derived.Test.YtpdpggndhmnggaaF17d
import Derived.Test.YtpdpggndhmnggaaR04ad
import Derived.Test.YtpdpggndhmnggaaBlend
namespace Go.Proofs.Ytpdpggndhmnggaa.M
open Go.RowKit Go.Proofs.YtpdpggndhmnggaaW.PrintWords Go.Proofs.YtpdpggndhmnggaaW.PrintLast Go.Proofs.YtpdpggndhmnggaaW.PrintMore Go.Proofs.Ytpdpggndhmnggaa.F
set_option linter.unusedVariables false
set_option linter.unusedSimpArgs false
theorem getD_set_ne {l : List Int} {i j : Nat} {d : Int} (h : i ≠ j) : (l.set i d).getD j 0 = l.getD j 0 := by
  rw [List.getD_eq_getElem?_getD, List.getD_eq_getElem?_getD, List.getElem?_set_ne h]
theorem getD_set_eq {l : List Int} {i : Nat} {d : Int} (h : i < l.length) : (l.set i d).getD i 0 = d := by
  rw [List.getD_eq_getElem?_getD, List.getElem?_set_self h]; rfl
theorem pow24 (n : Nat) : 2 ^ (24 * n) = 16777216 ^ n := by rw [Nat.pow_mul]
theorem pow_split (k : Nat) : 2 ^ k = 16777216 ^ (k / 24) * 2 ^ (k % 24) := by rw [← pow24, ← Nat.pow_add, Nat.div_add_mod]
theorem two_lt (k : Nat) : 2 ^ (k % 24) < 16777216 := Nat.lt_of_lt_of_le (Nat.pow_lt_pow_right (by decide) (Nat.mod_lt k (show 0 < 24 by decide))) (by decide)
theorem digs_shift {x : Nat} (h : 0 < x) (n : Nat) : List.replicate n 0 ++ digs x = digs (x * 16777216 ^ n) := by
  refine eq_digs' ((Dg.replicate n).append (digs_dg x)) ?_ (Or.inr ?_)
  · rw [nv_append, nv_replicate, List.length_replicate, nv_digs, Nat.zero_add, Nat.mul_comm]
  · have h1 : 0 < (digs x).length := digs_length_pos.mpr h
    have h2 := digs_length_iff.mp (show (digs x).length - 1 < (digs x).length by omega)
    rw [List.length_append, List.length_replicate, show n + (digs x).length - 1 = n + ((digs x).length - 1) by omega, Nat.pow_add, Nat.mul_comm x]
    exact Nat.mul_le_mul_left _ h2
theorem Shl_ev {x k : Nat} (hlx : (digs x).length < 100000000) (hk : k < 1000000000) : Ev (fun n => vernierref04_Shl.f n (digs x) (k : Int)) (digs (x * 2 ^ k)) := by
  unfold vernierref04_Shl.f
  by_cases hx : x = 0
  · subst hx
    refine Ev.congr (f := fun _ => some []) (fun n => ?_) ?_
    · rw [if_pos (by simp [digs_zero])]
    · rw [Nat.zero_mul]; exact Ev.now _
  · have lx : 0 < (digs x).length := digs_length_pos.mpr (by omega)
    have e1 : wrap64 (Int.tdiv (k : Int) 24) = ((k / 24 : Nat) : Int) := by rw [tdiv_nn (by omega), w64 (by omega) (by omega)]; rfl
    have e2 : Int.tmod (k : Int) 24 = ((k % 24 : Nat) : Int) := by rw [tmod_nn (by omega)]; rfl
    have hb : (digs (x * 2 ^ (k % 24))).length ≤ (digs x).length + 1 := by
      refine digs_length_le ?_
      rw [Nat.pow_succ]
      exact Nat.mul_lt_mul'' (digs_lt x) (two_lt k)
    refine Ev.congr (f := fun n => (vernierref04_two.f n ((k % 24 : Nat) : Int)).bind fun t => (vernierref04_times.f n (digs x) t).bind fun u => if (List.replicate (k / 24) (0 : Int)).length + u.length < 17592186044416 then some (List.replicate (k / 24) (0 : Int) ++ u) else none) (fun n => ?_) ?_
    · rw [if_neg (by omega), e1, e2, if_pos (by omega), if_pos (by omega), Int.toNat_natCast]
      rfl
    · refine Ev.bind (two_ev (by omega)) (Ev.bind (times_ev (two_lt k) (by omega)) ?_)
      refine Ev.congr (f := fun _ => some _) (fun n => if_pos (by simp; omega)) ?_
      rw [digs_shift (Nat.mul_pos (by omega) (Nat.pow_pos (by decide)))]
      have : x * 2 ^ (k % 24) * 16777216 ^ (k / 24) = x * 2 ^ k := by rw [pow_split k, Nat.mul_assoc, Nat.mul_comm (2 ^ (k % 24))]
      rw [this]
      exact Ev.now _
theorem shr_digit {x f g i : Nat} (hf : 0 < f) (hg : g * f = 16777216) :
    x / f / 16777216 ^ i % 16777216 = (x / 16777216 ^ i % 16777216) / f + (x / 16777216 ^ (i + 1) % 16777216 % f) * g := by
  have h0 : x / f / 16777216 ^ i = x / 16777216 ^ i / f := by rw [Nat.div_div_eq_div_mul, Nat.div_div_eq_div_mul, Nat.mul_comm]
  rw [h0, div_succ]
  generalize x / 16777216 ^ i = z
  have hz := Nat.div_add_mod z 16777216
  generalize z / 16777216 = w at *
  have hd : z % 16777216 < 16777216 := Nat.mod_lt _ (by decide)
  generalize z % 16777216 = d at *
  subst hz
  have e1 : (16777216 * w + d) / f = g * w + d / f := by
    rw [show 16777216 * w + d = f * (g * w) + d by rw [← hg]; grind, Nat.mul_add_div hf]
  have e2 : w % 16777216 % f = w % f := by rw [← hg]; exact Nat.mod_mul_left_mod ..
  have e3 : d / f < g := by
    rw [Nat.div_lt_iff_lt_mul hf, hg]; exact hd
  rw [e1, e2]
  have e4 : g * w % 16777216 = g * (w % f) := by rw [← hg]; exact Nat.mul_mod_mul_left ..
  have e5 : w % f < f := Nat.mod_lt _ hf
  have e6 : g * (w % f) + d / f < 16777216 := by
    have : g * (w % f) + g ≤ g * f := by rw [← Nat.mul_succ]; exact Nat.mul_le_mul_left _ e5
    omega
  rw [Nat.add_mod, e4, Nat.mod_eq_of_lt (show d / f < 16777216 by omega), Nat.mod_eq_of_lt e6, Nat.add_comm, Nat.mul_comm]
theorem shr_val {a b f g : Nat} (ha : a < 16777216) (hf : 0 < f) (hg : g * f = 16777216) :
    wrap64 (wrap64 (Int.tdiv (a : Int) (f : Int)) + wrap64 (Int.tmod (b : Int) (f : Int) * wrap64 (Int.tdiv 16777216 (f : Int)))) = ((a / f + b % f * g : Nat) : Int) ∧ a / f + b % f * g < 16777216 := by
  have h3 : 16777216 / f = g := by rw [← hg]; exact Nat.mul_div_cancel _ hf
  have e1 : a / f < g := by rw [Nat.div_lt_iff_lt_mul hf, hg]; exact ha
  have e2 : b % f * g + g ≤ 16777216 := by
    rw [← hg, ← Nat.succ_mul, Nat.mul_comm]; exact Nat.mul_le_mul_left _ (Nat.mod_lt _ hf)
  have bg : g ≤ 16777216 := by omega
  have c0 : (16777216 : Int) = ((16777216 : Nat) : Int) := rfl
  rw [c0, tdiv_nn (Int.natCast_nonneg _), tdiv_nn (Int.natCast_nonneg _), tmod_nn (Int.natCast_nonneg _), ← Int.natCast_ediv, ← Int.natCast_ediv, ← Int.natCast_emod, h3]
  clear c0 h3 hg
  generalize a / f = u at *
  have e4 : ((b % f : Nat) : Int) * (g : Int) = ((b % f * g : Nat) : Int) := by simp
  rw [w64 (x := (g : Int)) (by omega) (by omega), e4]
  generalize b % f * g = v at *
  rw [w64 (x := (v : Int)) (by omega) (by omega), w64 (x := (u : Int)) (by omega) (by omega), w64 (by omega) (by omega)]
  omega
theorem Shr_l0 {x f g : Nat} (hf : 0 < f) (hg : g * f = 16777216) (hl : (digs x).length < 100000000) : ∀ (d i : Nat) (out : List Int), (digs x).length - i ≤ d → i ≤ (digs x).length → Dg out → out.length = (digs x).length →
    nv (out.take i) = x / f % 16777216 ^ i → Ev (fun k => vernierref04_Shr.l0 k (digs x) (f : Int) out (i : Int)) (digs (x / f)) := by
  intro d
  induction d with
  | zero =>
    intro i out hd hi hdg hlen hv
    have h1 := lt_pow_of_len (x := x) (i := i) (by omega)
    have h2 : x / f ≤ x := Nat.div_le_self _ _
    rw [List.take_of_length_le (by omega), Nat.mod_eq_of_lt (Nat.lt_of_le_of_lt h2 h1)] at hv
    refine Ev.step (f := fun k => (vernierref04_Cut.f k out).bind fun t => some t) (fun k => ?_) ?_
    · simp only [vernierref04_Shr.l0]; rw [if_neg (by omega)]
    · rw [← hv]; exact Ev.bind (Cut_ev hdg (by omega)) (Ev.now _)
  | succ d ih =>
    intro i out hd hi hdg hlen hv
    by_cases hgo : i < (digs x).length
    · have hax := digs_getD i x
      have hbx := digit_ev x (i + 1)
      have ba : x / 16777216 ^ i % 16777216 < 16777216 := Nat.mod_lt _ (by decide)
      obtain ⟨hval, hlt⟩ := shr_val (b := x / 16777216 ^ (i + 1) % 16777216) ba hf hg
      replace hval := Aside0.mk hval
      replace hlt := Aside0.mk hlt
      have hsd := shr_digit (x := x) (i := i) hf hg
      have hms := mod_succ (x / f) i
      rw [hsd] at hms
      generalize x / 16777216 ^ i % 16777216 = a at *
      generalize x / 16777216 ^ (i + 1) % 16777216 = b at *
      refine Ev.step (f := fun k => vernierref04_Shr.l0 k (digs x) (f : Int) (out.set i ((a / f + b % f * g : Nat) : Int)) ((i + 1 : Nat) : Int)) (fun k => ?_) ?_
      · clear hms hsd hv
        simp only [vernierref04_Shr.l0]
        have e1 : wrap64 ((i : Int) + 1) = ((i + 1 : Nat) : Int) := by rw [w64 (by omega) (by omega)]; rfl
        rw [if_pos (by omega), if_pos (by omega), if_neg (by omega), e1, hbx]
        rw [Option.bind_some, rd_nat, hax, if_pos (by omega), hval.out, Int.toNat_natCast]
      · refine ih (i + 1) _ (by omega) (by omega) (hdg.set _ ⟨Int.natCast_nonneg _, Int.ofNat_lt.mpr hlt.out⟩) (by rw [List.length_set]; exact hlen) ?_
        rw [take_snoc (by rw [List.length_set]; omega), nv_snoc, getD_set_eq (by omega), List.take_set_of_le (Nat.le_refl _), hv, hms, List.length_take, Nat.min_eq_left (by omega), Int.toNat_natCast]
    · exact ih i out (by omega) hi hdg hlen hv
theorem drop_digs (x n : Nat) : (digs x).drop n = digs (x / 16777216 ^ n) := by
  induction n generalizing x with
  | zero => simp
  | succ n ih =>
    by_cases h : x = 0
    · subst h; simp [digs_zero]
    · rw [digs_pos x (by omega), List.drop_succ_cons, ih, Nat.pow_succ, Nat.mul_comm, ← Nat.div_div_eq_div_mul]
theorem Shr_ev {x k : Nat} (hlx : (digs x).length < 100000000) (hk : k < 1000000000) : Ev (fun n => vernierref04_Shr.f n (digs x) (k : Int)) (digs (x / 2 ^ k)) := by
  unfold vernierref04_Shr.f
  have e1 : wrap64 (Int.tdiv (k : Int) 24) = ((k / 24 : Nat) : Int) := by rw [tdiv_nn (by omega), w64 (by omega) (by omega)]; rfl
  have e2 : Int.tmod (k : Int) 24 = ((k % 24 : Nat) : Int) := by rw [tmod_nn (by omega)]; rfl
  rw [e1, e2]
  by_cases hge : (digs x).length ≤ k / 24
  · refine Ev.congr (f := fun _ => some []) (fun n => if_pos (by omega)) ?_
    have h1 := lt_pow_of_len hge
    have h2 : 16777216 ^ (k / 24) ≤ 2 ^ k := by rw [pow_split k]; exact Nat.le_mul_of_pos_right _ (Nat.pow_pos (by decide))
    rw [Nat.div_eq_of_lt (by omega)]
    exact Ev.now _
  · have hlen : ((digs x).drop (k / 24)).length ≤ (digs x).length := by simp
    have hf : 0 < 2 ^ (k % 24) := Nat.pow_pos (by decide)
    have hg : 2 ^ (24 - k % 24) * 2 ^ (k % 24) = 16777216 := by
      rw [← Nat.pow_add, show 24 - k % 24 + k % 24 = 24 by omega]
    refine Ev.congr (f := fun n => (vernierref04_two.f n ((k % 24 : Nat) : Int)).bind fun t => vernierref04_Shr.l0 n (digs (x / 16777216 ^ (k / 24))) t (List.replicate ((digs (x / 16777216 ^ (k / 24))).length) 0) ((0 : Nat) : Int)) (fun n => ?_) ?_
    · rw [if_neg (by omega), if_pos (by omega), if_pos (by omega), Int.toNat_natCast]
      refine congrArg _ (funext fun t => ?_)
      rw [if_pos (by omega), if_pos (by omega), Int.toNat_natCast, drop_digs]
      rfl
    · rw [drop_digs] at hlen
      refine Ev.bind (two_ev (by omega)) ?_
      have := Shr_l0 (x := x / 16777216 ^ (k / 24)) hf hg (by omega) _ 0 (List.replicate ((digs (x / 16777216 ^ (k / 24))).length) 0) (Nat.le_refl _) (by omega) (Dg.replicate _) (by simp) (by simp [nv, Nat.mod_one])
      rw [Nat.div_div_eq_div_mul, ← pow_split] at this
      exact this
theorem Word_ev (x : Nat) : Ev (fun n => vernierref04_Word.f n (digs x)) ((x % 18446744073709551616 : Nat) : Int) := by
  have h0 := digit_ev x 0
  have h1 := digit_ev x 1
  have h2 := digit_ev x 2
  rw [Nat.pow_zero, Nat.div_one] at h0
  rw [Nat.pow_one] at h1
  rw [show (16777216 : Nat) ^ 2 = 16777216 * 16777216 from rfl, ← Nat.div_div_eq_div_mul] at h2
  have hx := Nat.div_add_mod x 16777216
  have hx2 := Nat.div_add_mod (x / 16777216) 16777216
  have hx3 := Nat.div_add_mod (x / 16777216 / 16777216) 16777216
  have b0 : x % 16777216 < 16777216 := Nat.mod_lt _ (by decide)
  have b1 : x / 16777216 % 16777216 < 16777216 := Nat.mod_lt _ (by decide)
  have b2 : x / 16777216 / 16777216 % 16777216 < 16777216 := Nat.mod_lt _ (by decide)
  generalize x % 16777216 = d0 at *
  generalize x / 16777216 = y at *
  generalize y % 16777216 = d1 at *
  generalize y / 16777216 = z at *
  generalize z % 16777216 = d2 at *
  generalize z / 16777216 = u at *
  refine Ev.step (f := fun n => vernierref04_Word.l0 n (digs x) (d2 : Int) 1) (fun n => ?_) (Ev.step (f := fun n => vernierref04_Word.l0 n (digs x) ((d2 * 16777216 + d1 : Nat) : Int) 0) (fun n => ?_) (Ev.step (f := fun n => vernierref04_Word.l0 n (digs x) ((x % 18446744073709551616 : Nat) : Int) (-1)) (fun n => ?_) (Ev.step (f := fun n => some _) (fun n => ?_) (Ev.now _))))
  · simp only [vernierref04_Word.f, vernierref04_Word.l0]
    rw [if_pos (by omega), show (2 : Int) = ((2 : Nat) : Int) from rfl, h2]
    simp only [Option.bind_some]
    rw [u64s (x := 0 * 16777216) (by omega) (by omega), u64s (x := (d2 : Int)) (by omega) (by omega), u64s (by omega) (by omega), w64 (by omega) (by omega)]
    congr 1; omega
  · simp only [vernierref04_Word.l0]
    rw [if_pos (by omega), show (1 : Int) = ((1 : Nat) : Int) from rfl, h1]
    simp only [Option.bind_some]
    rw [u64s (x := (d2 : Int) * 16777216) (by omega) (by omega), u64s (x := (d1 : Int)) (by omega) (by omega), u64s (by omega) (by omega), w64 (by omega) (by omega)]
    congr 1
  · simp only [vernierref04_Word.l0]
    rw [if_pos (by omega), show (0 : Int) = ((0 : Nat) : Int) from rfl, h0]
    simp only [Option.bind_some]
    rw [u64w, u64s (x := (d0 : Int)) (by omega) (by omega), u64w, w64 (by omega) (by omega)]
    congr 1
    omega
  · simp only [vernierref04_Word.l0]
    rw [if_neg (by omega)]
theorem Bits_l0 : ∀ (t n : Nat), n + blen t < 1000000000 → t < 16777216 → Ev (fun k => vernierref04_Bits.l0 k (n : Int) (t : Int)) ((n + blen t : Nat) : Int) := by
  intro t
  induction t using Nat.strongRecOn with
  | _ t ih =>
    intro n hn ht
    rcases Nat.eq_zero_or_pos t with h | h
    · subst h
      refine Ev.step (f := fun _ => some _) (fun k => ?_) (Ev.now _)
      simp only [vernierref04_Bits.l0]; rw [if_neg (by omega)]; rfl
    · have hb := blen_half h
      refine Ev.step (f := fun k => vernierref04_Bits.l0 k ((n + 1 : Nat) : Int) ((t / 2 : Nat) : Int)) (fun k => ?_) ?_
      · simp only [vernierref04_Bits.l0]
        rw [if_pos (by omega), tdiv_nn (by omega), w64 (x := (n : Int) + 1) (by omega) (by omega), w64 (by omega) (by omega)]
        rfl
      · have := ih (t / 2) (by omega) (n + 1) (by omega) (by omega)
        rw [show n + blen t = n + 1 + blen (t / 2) by omega]
        exact this
theorem blen_top {x n : Nat} (hn : 16777216 ^ n ≤ x) (hx : x < 16777216 ^ (n + 1)) : blen x = 24 * n + blen (x / 16777216 ^ n % 16777216) := by
  have hp := pw_pos n
  have h1 : x / 16777216 ^ n < 16777216 := by rw [Nat.div_lt_iff_lt_mul hp, Nat.mul_comm, ← Nat.pow_succ]; exact hx
  rw [Nat.mod_eq_of_lt h1]
  have h2 : 0 < x / 16777216 ^ n := Nat.div_pos hn hp
  have h3 := lt_blen (x / 16777216 ^ n)
  have h4 := blen_le h2
  have h5 := blen_pos h2
  refine blen_unique ?_ (Or.inr ?_)
  · rw [Nat.pow_add, pow24, Nat.mul_comm]; exact (Nat.div_lt_iff_lt_mul hp).mp h3
  · rw [show 24 * n + blen (x / 16777216 ^ n) - 1 = 24 * n + (blen (x / 16777216 ^ n) - 1) by omega, Nat.pow_add, pow24, Nat.mul_comm]
    exact (Nat.le_div_iff_mul_le hp).mp h4
theorem Bits_ev {x : Nat} (hl : (digs x).length < 10000000) : Ev (fun k => vernierref04_Bits.f k (digs x)) ((blen x : Nat) : Int) := by
  unfold vernierref04_Bits.f
  by_cases hx : x = 0
  · subst hx
    exact Ev.congr (f := fun _ => some 0) (fun k => if_pos (by simp [digs_zero])) (Ev.now _)
  · have lx : 0 < (digs x).length := digs_length_pos.mpr (by omega)
    obtain ⟨n, hn⟩ : ∃ n, (digs x).length = n + 1 := ⟨(digs x).length - 1, by omega⟩
    have h1 := digs_length_iff.mp (show n < (digs x).length by omega)
    have h2 := digs_lt x
    rw [hn] at h2
    have ha := digs_getD n x
    have hb := blen_top h1 h2
    have ba : x / 16777216 ^ n % 16777216 < 16777216 := Nat.mod_lt _ (by decide)
    have hbl : blen (x / 16777216 ^ n % 16777216) ≤ 24 := by
      rcases Nat.eq_zero_or_pos (x / 16777216 ^ n % 16777216) with h | h
      · rw [h]; decide
      · have := blen_le h
        rcases Nat.lt_or_ge 24 (blen (x / 16777216 ^ n % 16777216)) with h6 | h6
        · have h7 : 2 ^ 24 ≤ 2 ^ (blen (x / 16777216 ^ n % 16777216) - 1) := Nat.pow_le_pow_right (by decide) (by omega)
          have h8 : (2 : Nat) ^ 24 = 16777216 := by decide
          omega
        · exact h6
    refine Ev.congr (f := fun k => vernierref04_Bits.l0 k ((24 * n : Nat) : Int) ((x / 16777216 ^ n % 16777216 : Nat) : Int)) (fun k => ?_) ?_
    · have e : (((digs x).length : Int) - 1) = (n : Int) := by omega
      rw [if_neg (by omega), e, w64 (x := (n : Int)) (by omega) (by omega), if_pos (by omega), if_pos (by omega), rd_nat, ha, w64 (by omega) (by omega)]
      rfl
    · rw [hb]; exact Bits_l0 _ _ (by omega) ba
end Go.Proofs.Ytpdpggndhmnggaa.M
