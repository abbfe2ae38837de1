/- What the reference's naturals compute, second part: Mul, Shl, Shr, Low, Word, Bits. -/
import Derived.Test.YtpdpggndhmnggaaF17c
import Derived.Test.YtpdpggndhmnggaaR04ac
import Derived.Test.YtpdpggndhmnggaaBlenc
namespace Go.Proofs.Ytpdpggndhmnggaa.M
open Go.RowKit Go.Proofs.YtpdpggndhmnggaaW.PrintWords Go.Proofs.YtpdpggndhmnggaaW.PrintLast Go.Proofs.YtpdpggndhmnggaaW.PrintMore Go.Proofs.Ytpdpggndhmnggaa.F
set_option linter.unusedVariables false
set_option linter.unusedSimpArgs false
theorem getD_set_ne {l : List Int} {i j : Nat} {d : Int} (h : i ≠ j) : (l.set i d).getD j 0 = l.getD j 0 := by
  rw [List.getD_eq_getElem?_getD, List.getD_eq_getElem?_getD, List.getElem?_set_ne h]
theorem getD_set_eq {l : List Int} {i : Nat} {d : Int} (h : i < l.length) : (l.set i d).getD i 0 = d := by
  rw [List.getD_eq_getElem?_getD, List.getElem?_set_self h]; rfl
theorem pow24 (n : Nat) : 2 ^ (24 * n) = 16777216 ^ n := by rw [Nat.pow_mul]
theorem pow_split (k : Nat) : 2 ^ k = 16777216 ^ (k / 24) * 2 ^ (k % 24) := by rw [← pow24, ← Nat.pow_add, Nat.div_add_mod]
theorem two_lt (k : Nat) : 2 ^ (k % 24) < 16777216 := Nat.lt_of_lt_of_le (Nat.pow_lt_pow_right (by decide) (Nat.mod_lt k (show 0 < 24 by decide))) (by decide)
theorem digs_shift {x : Nat} (h : 0 < x) (n : Nat) : List.replicate n 0 ++ digs x = digs (x * 16777216 ^ n) := by
  refine eq_digs' ((Dg.replicate n).append (digs_dg x)) ?_ (Or.inr ?_)
  · rw [nv_append, nv_replicate, List.length_replicate, nv_digs, Nat.zero_add, Nat.mul_comm]
  · have h1 : 0 < (digs x).length := digs_length_pos.mpr h
    have h2 := digs_length_iff.mp (show (digs x).length - 1 < (digs x).length by omega)
    rw [List.length_append, List.length_replicate, show n + (digs x).length - 1 = n + ((digs x).length - 1) by omega, Nat.pow_add, Nat.mul_comm x]
    exact Nat.mul_le_mul_left _ h2
theorem Shl_ev {x k : Nat} (hlx : (digs x).length < 100000000) (hk : k < 1000000000) : Ev (fun n => vernierref04_Shl.f n (digs x) (k : Int)) (digs (x * 2 ^ k)) := by
  unfold vernierref04_Shl.f
  by_cases hx : x = 0
  · subst hx
    refine Ev.congr (f := fun _ => some []) (fun n => ?_) ?_
    · rw [if_pos (by simp [digs_zero])]
    · rw [Nat.zero_mul]; exact Ev.now _
  · have lx : 0 < (digs x).length := digs_length_pos.mpr (by omega)
    have e1 : wrap64 (Int.tdiv (k : Int) 24) = ((k / 24 : Nat) : Int) := by rw [tdiv_nn (by omega), w64 (by omega) (by omega)]; rfl
    have e2 : Int.tmod (k : Int) 24 = ((k % 24 : Nat) : Int) := by rw [tmod_nn (by omega)]; rfl
    have hb : (digs (x * 2 ^ (k % 24))).length ≤ (digs x).length + 1 := by
      refine digs_length_le ?_
      rw [Nat.pow_succ]
      exact Nat.mul_lt_mul'' (digs_lt x) (two_lt k)
    refine Ev.congr (f := fun n => (vernierref04_two.f n ((k % 24 : Nat) : Int)).bind fun t => (vernierref04_times.f n (digs x) t).bind fun u => if (List.replicate (k / 24) (0 : Int)).length + u.length < 17592186044416 then some (List.replicate (k / 24) (0 : Int) ++ u) else none) (fun n => ?_) ?_
    · rw [if_neg (by omega), e1, e2, if_pos (by omega), if_pos (by omega), Int.toNat_natCast]
      rfl
    · refine Ev.bind (two_ev (by omega)) (Ev.bind (times_ev (two_lt k) (by omega)) ?_)
      refine Ev.congr (f := fun _ => some _) (fun n => if_pos (by simp; omega)) ?_
      rw [digs_shift (Nat.mul_pos (by omega) (Nat.pow_pos (by decide)))]
      have : x * 2 ^ (k % 24) * 16777216 ^ (k / 24) = x * 2 ^ k := by rw [pow_split k, Nat.mul_assoc, Nat.mul_comm (2 ^ (k % 24))]
      rw [this]
      exact Ev.now _
theorem shr_digit {x f g i : Nat} (hf : 0 < f) (hg : g * f = 16777216) :
    x / f / 16777216 ^ i % 16777216 = (x / 16777216 ^ i % 16777216) / f + (x / 16777216 ^ (i + 1) % 16777216 % f) * g := by
  have h0 : x / f / 16777216 ^ i = x / 16777216 ^ i / f := by rw [Nat.div_div_eq_div_mul, Nat.div_div_eq_div_mul, Nat.mul_comm]
  rw [h0, div_succ]
  generalize x / 16777216 ^ i = z
  have hz := Nat.div_add_mod z 16777216
  generalize z / 16777216 = w at *
  have hd : z % 16777216 < 16777216 := Nat.mod_lt _ (by decide)
  generalize z % 16777216 = d at *
  subst hz
  have e1 : (16777216 * w + d) / f = g * w + d / f := by
    rw [show 16777216 * w + d = f * (g * w) + d by rw [← hg]; grind, Nat.mul_add_div hf]
  have e2 : w % 16777216 % f = w % f := by rw [← hg]; exact Nat.mod_mul_left_mod ..
  have e3 : d / f < g := by
    rw [Nat.div_lt_iff_lt_mul hf, hg]; exact hd
  rw [e1, e2]
  have e4 : g * w % 16777216 = g * (w % f) := by rw [← hg]; exact Nat.mul_mod_mul_left ..
  have e5 : w % f < f := Nat.mod_lt _ hf
  have e6 : g * (w % f) + d / f < 16777216 := by
    have : g * (w % f) + g ≤ g * f := by rw [← Nat.mul_succ]; exact Nat.mul_le_mul_left _ e5
    omega
  rw [Nat.add_mod, e4, Nat.mod_eq_of_lt (show d / f < 16777216 by omega), Nat.mod_eq_of_lt e6, Nat.add_comm, Nat.mul_comm]
theorem shr_val {a b f g : Nat} (ha : a < 16777216) (hf : 0 < f) (hg : g * f = 16777216) :
    wrap64 (wrap64 (Int.tdiv (a : Int) (f : Int)) + wrap64 (Int.tmod (b : Int) (f : Int) * wrap64 (Int.tdiv 16777216 (f : Int)))) = ((a / f + b % f * g : Nat) : Int) ∧ a / f + b % f * g < 16777216 := by
  have h3 : 16777216 / f = g := by rw [← hg]; exact Nat.mul_div_cancel _ hf
  have e1 : a / f < g := by rw [Nat.div_lt_iff_lt_mul hf, hg]; exact ha
  have e2 : b % f * g + g ≤ 16777216 := by
    rw [← hg, ← Nat.succ_mul, Nat.mul_comm]; exact Nat.mul_le_mul_left _ (Nat.mod_lt _ hf)
  have bg : g ≤ 16777216 := by omega
  have c0 : (16777216 : Int) = ((16777216 : Nat) : Int) := rfl
  rw [c0, tdiv_nn (Int.natCast_nonneg _), tdiv_nn (Int.natCast_nonneg _), tmod_nn (Int.natCast_nonneg _), ← Int.natCast_ediv, ← Int.natCast_ediv, ← Int.natCast_emod, h3]
  clear c0 h3 hg
  generalize a / f = u at *
  have e4 : ((b % f : Nat) : Int) * (g : Int) = ((b % f * g : Nat) : Int) := by simp
  rw [w64 (x := (g : Int)) (by omega) (by omega), e4]
  generalize b % f * g = v at *
  rw [w64 (x := (v : Int)) (by omega) (by omega), w64 (x := (u : Int)) (by omega) (by omega), w64 (by omega) (by omega)]
  omega
theorem Shr_l0 {x f g : Nat} (hf : 0 < f) (hg : g * f = 16777216) (hl : (digs x).length < 100000000) : ∀ (d i : Nat) (out : List Int), (digs x).length - i ≤ d → i ≤ (digs x).length → Dg out → out.length = (digs x).length →
    nv (out.take i) = x / f % 16777216 ^ i → Ev (fun k => vernierref04_Shr.l0 k (digs x) (f : Int) out (i : Int)) (digs (x / f)) := by
  intro d
  induction d with
  | zero =>
    intro i out hd hi hdg hlen hv
    have h1 := lt_pow_of_len (x := x) (i := i) (by omega)
    have h2 : x / f ≤ x := Nat.div_le_self _ _
    rw [List.take_of_length_le (by omega), Nat.mod_eq_of_lt (Nat.lt_of_le_of_lt h2 h1)] at hv
    refine Ev.step (f := fun k => (vernierref04_Cut.f k out).bind fun t => some t) (fun k => ?_) ?_
    · simp only [vernierref04_Shr.l0]; rw [if_neg (by omega)]
    · rw [← hv]; exact Ev.bind (Cut_ev hdg (by omega)) (Ev.now _)
  | succ d ih =>
    intro i out hd hi hdg hlen hv
    by_cases hgo : i < (digs x).length
    · have hax := digs_getD i x
      have hbx := digit_ev x (i + 1)
      have ba : x / 16777216 ^ i % 16777216 < 16777216 := Nat.mod_lt _ (by decide)
      obtain ⟨hval, hlt⟩ := shr_val (b := x / 16777216 ^ (i + 1) % 16777216) ba hf hg
      replace hval := Aside0.mk hval
      replace hlt := Aside0.mk hlt
      have hsd := shr_digit (x := x) (i := i) hf hg
      have hms := mod_succ (x / f) i
      rw [hsd] at hms
      generalize x / 16777216 ^ i % 16777216 = a at *
      generalize x / 16777216 ^ (i + 1) % 16777216 = b at *
      refine Ev.step (f := fun k => vernierref04_Shr.l0 k (digs x) (f : Int) (out.set i ((a / f + b % f * g : Nat) : Int)) ((i + 1 : Nat) : Int)) (fun k => ?_) ?_
      · clear hms hsd hv
        simp only [vernierref04_Shr.l0]
        have e1 : wrap64 ((i : Int) + 1) = ((i + 1 : Nat) : Int) := by rw [w64 (by omega) (by omega)]; rfl
        rw [if_pos (by omega), if_pos (by omega), if_neg (by omega), e1, hbx]
        rw [Option.bind_some, rd_nat, hax, if_pos (by omega), hval.out, Int.toNat_natCast]
      · refine ih (i + 1) _ (by omega) (by omega) (hdg.set _ ⟨Int.natCast_nonneg _, Int.ofNat_lt.mpr hlt.out⟩) (by rw [List.length_set]; exact hlen) ?_
        rw [take_snoc (by rw [List.length_set]; omega), nv_snoc, getD_set_eq (by omega), List.take_set_of_le (Nat.le_refl _), hv, hms, List.length_take, Nat.min_eq_left (by omega), Int.toNat_natCast]
    · exact ih i out (by omega) hi hdg hlen hv
theorem drop_digs (x n : Nat) : (digs x).drop n = digs (x / 16777216 ^ n) := by
  induction n generalizing x with
  | zero => simp
  | succ n ih =>
    by_cases h : x = 0
    · subst h; simp [digs_zero]
    · rw [digs_pos x (by omega), List.drop_succ_cons, ih, Nat.pow_succ, Nat.mul_comm, ← Nat.div_div_eq_div_mul]
theorem Shr_ev {x k : Nat} (hlx : (digs x).length < 100000000) (hk : k < 1000000000) : Ev (fun n => vernierref04_Shr.f n (digs x) (k : Int)) (digs (x / 2 ^ k)) := by
  unfold vernierref04_Shr.f
  have e1 : wrap64 (Int.tdiv (k : Int) 24) = ((k / 24 : Nat) : Int) := by rw [tdiv_nn (by omega), w64 (by omega) (by omega)]; rfl
  have e2 : Int.tmod (k : Int) 24 = ((k % 24 : Nat) : Int) := by rw [tmod_nn (by omega)]; rfl
  rw [e1, e2]
  by_cases hge : (digs x).length ≤ k / 24
  · refine Ev.congr (f := fun _ => some []) (fun n => if_pos (by omega)) ?_
    have h1 := lt_pow_of_len hge
    have h2 : 16777216 ^ (k / 24) ≤ 2 ^ k := by rw [pow_split k]; exact Nat.le_mul_of_pos_right _ (Nat.pow_pos (by decide))
    rw [Nat.div_eq_of_lt (by omega)]
    exact Ev.now _
  · have hlen : ((digs x).drop (k / 24)).length ≤ (digs x).length := by simp
    have hf : 0 < 2 ^ (k % 24) := Nat.pow_pos (by decide)
    have hg : 2 ^ (24 - k % 24) * 2 ^ (k % 24) = 16777216 := by
      rw [← Nat.pow_add, show 24 - k % 24 + k % 24 = 24 by omega]
    refine Ev.congr (f := fun n => (vernierref04_two.f n ((k % 24 : Nat) : Int)).bind fun t => vernierref04_Shr.l0 n (digs (x / 16777216 ^ (k / 24))) t (List.replicate ((digs (x / 16777216 ^ (k / 24))).length) 0) ((0 : Nat) : Int)) (fun n => ?_) ?_
    · rw [if_neg (by omega), if_pos (by omega), if_pos (by omega), Int.toNat_natCast]
      refine congrArg _ (funext fun t => ?_)
      rw [if_pos (by omega), if_pos (by omega), Int.toNat_natCast, drop_digs]
      rfl
    · rw [drop_digs] at hlen
      refine Ev.bind (two_ev (by omega)) ?_
      have := Shr_l0 (x := x / 16777216 ^ (k / 24)) hf hg (by omega) _ 0 (List.replicate ((digs (x / 16777216 ^ (k / 24))).length) 0) (Nat.le_refl _) (by omega) (Dg.replicate _) (by simp) (by simp [nv, Nat.mod_one])
      rw [Nat.div_div_eq_div_mul, ← pow_split] at this
      exact this
theorem Low_l0 {x k : Nat} (hl : (digs x).length < 100000000) (hk : k < 1000000000) : ∀ (d i : Nat), (digs x).length - i ≤ d → i ≤ (digs x).length → x % 16777216 ^ i = 0 →
    Ev (fun n => vernierref04_Low.l0 n (digs x) (k : Int) (i : Int)) (decide (x % 2 ^ k ≠ 0)) := by
  have stop : ∀ i : Nat, x % 16777216 ^ i = 0 → k ≤ 24 * i ∨ (digs x).length ≤ i → decide (x % 2 ^ k ≠ 0) = false := by
    intro i hz h
    have hz2 : x % 2 ^ k = 0 := by
      rcases h with h | h
      · rw [← pow24, show 24 * i = k + (24 * i - k) by omega, Nat.pow_add] at hz
        exact Nat.mod_eq_zero_of_dvd (Nat.dvd_trans (Nat.dvd_mul_right _ _) (Nat.dvd_of_mod_eq_zero hz))
      · have h1 := lt_pow_of_len h
        rw [Nat.mod_eq_of_lt h1] at hz
        subst hz; simp
    simp [hz2]
  intro d
  induction d with
  | zero =>
    intro i hd hi hz
    refine Ev.step (f := fun n => vernierref04_Low.j1 n (digs x) (k : Int) (i : Int) false) (fun n => ?_) (Ev.step (f := fun _ => some false) (fun n => ?_) ?_)
    · simp only [vernierref04_Low.l0]; rw [if_neg (by omega)]
    · simp [vernierref04_Low.j1]
    · rw [stop i hz (Or.inr (by omega))]; exact Ev.now _
  | succ d ih =>
    intro i hd hi hz
    by_cases hgo : i < (digs x).length
    · have e24 : wrap64 (24 * (i : Int)) = ((24 * i : Nat) : Int) := by rw [w64 (by omega) (by omega)]; rfl
      by_cases hki : k ≤ 24 * i
      · refine Ev.step (f := fun n => vernierref04_Low.j1 n (digs x) (k : Int) (i : Int) false) (fun n => ?_) (Ev.step (f := fun _ => some false) (fun n => ?_) ?_)
        · simp only [vernierref04_Low.l0]; rw [if_pos (by omega), e24]
          have : decide (((24 * i : Nat) : Int) < (k : Int)) = false := decide_eq_false (by omega)
          rw [this]
        · simp [vernierref04_Low.j1]
        · rw [stop i hz (Or.inl hki)]; exact Ev.now _
      · have hax := digs_getD i x
        have ba : x / 16777216 ^ i % 16777216 < 16777216 := Nat.mod_lt _ (by decide)
        have hms := mod_succ x i
        rw [hz, Nat.zero_add] at hms
        refine Ev.step (f := fun n => vernierref04_Low.j1 n (digs x) (k : Int) (i : Int) true) (fun n => ?_) ?_
        · simp only [vernierref04_Low.l0]; rw [if_pos (by omega), e24]
          have : decide (((24 * i : Nat) : Int) < (k : Int)) = true := decide_eq_true (by omega)
          rw [this]
        · have ek : wrap64 ((k : Int) - ((24 * i : Nat) : Int)) = ((k - 24 * i : Nat) : Int) := by rw [w64 (by omega) (by omega)]; omega
          by_cases hsm : k - 24 * i < 24
          · have hp : 0 < 2 ^ (k - 24 * i) := Nat.pow_pos (by decide)
            have hpk : 2 ^ k = 16777216 ^ i * 2 ^ (k - 24 * i) := by rw [← pow24, ← Nat.pow_add]; congr 1; omega
            have hxm : x % 2 ^ k = 16777216 ^ i * (x / 16777216 ^ i % 2 ^ (k - 24 * i)) := by
              rw [hpk, Nat.mod_mul, hz, Nat.zero_add]
            have hmm : x / 16777216 ^ i % 16777216 % 2 ^ (k - 24 * i) = x / 16777216 ^ i % 2 ^ (k - 24 * i) := by
              rw [show 16777216 = 2 ^ (24 - (k - 24 * i)) * 2 ^ (k - 24 * i) by rw [← Nat.pow_add, show 24 - (k - 24 * i) + (k - 24 * i) = 24 by omega]]
              exact Nat.mod_mul_left_mod ..
            have tm : Int.tmod ((x / 16777216 ^ i % 16777216 : Nat) : Int) ((2 ^ (k - 24 * i) : Nat) : Int) = ((x / 16777216 ^ i % 2 ^ (k - 24 * i) : Nat) : Int) := by
              rw [tmod_nn (by omega), ← hmm]; rfl
            by_cases hne : x / 16777216 ^ i % 2 ^ (k - 24 * i) = 0
            · -- the cut digit is nought: the next round ends it
              have hx0 : x % 2 ^ k = 0 := by rw [hxm, hne, Nat.mul_zero]
              have hres : decide (x % 2 ^ k ≠ 0) = false := by simp [hx0]
              rw [hres]
              refine Ev.step (f := fun n => (vernierref04_two.f n ((k - 24 * i : Nat) : Int)).bind fun t => if (t : Int) = 0 then none else if Int.tmod (rd (digs x) (i : Int)) t = 0 then vernierref04_Low.l0 n (digs x) (k : Int) ((i + 1 : Nat) : Int) else some true) (fun n => ?_) (Ev.bind (two_ev (by omega)) ?_)
              · simp only [vernierref04_Low.j1]
                rw [if_pos trivial, e24, ek, if_pos (by omega)]
                refine congrArg _ (funext fun t => ?_)
                rw [if_pos (by omega), if_pos (by omega), w64 (x := (i : Int) + 1) (by omega) (by omega)]
                rfl
              · refine Ev.congr (f := fun n => vernierref04_Low.l0 n (digs x) (k : Int) ((i + 1 : Nat) : Int)) (fun n => ?_) ?_
                · rw [if_neg (by omega), rd_nat, hax, tm, hne, if_pos (by simp)]
                · have e24' : wrap64 (24 * ((i + 1 : Nat) : Int)) = ((24 * (i + 1) : Nat) : Int) := by rw [w64 (by omega) (by omega)]; rfl
                  refine Ev.step (f := fun n => vernierref04_Low.j1 n (digs x) (k : Int) ((i + 1 : Nat) : Int) false) (fun n => ?_) (Ev.step (f := fun _ => some false) (fun n => ?_) (Ev.now _))
                  · simp only [vernierref04_Low.l0]
                    by_cases g : i + 1 < (digs x).length
                    · rw [if_pos (by omega), e24']
                      have : decide (((24 * (i + 1) : Nat) : Int) < (k : Int)) = false := decide_eq_false (by omega)
                      rw [this]
                    · rw [if_neg (by omega)]
                  · simp [vernierref04_Low.j1]
            · have hx0 : x % 2 ^ k ≠ 0 := by
                rw [hxm]
                exact Nat.mul_ne_zero (Nat.ne_of_gt (pw_pos i)) hne
              have hres : decide (x % 2 ^ k ≠ 0) = true := by simp [hx0]
              rw [hres]
              refine Ev.step (f := fun n => (vernierref04_two.f n ((k - 24 * i : Nat) : Int)).bind fun t => if (t : Int) = 0 then none else if Int.tmod (rd (digs x) (i : Int)) t = 0 then vernierref04_Low.l0 n (digs x) (k : Int) ((i + 1 : Nat) : Int) else some true) (fun n => ?_) (Ev.bind (two_ev (by omega)) ?_)
              · simp only [vernierref04_Low.j1]
                rw [if_pos trivial, e24, ek, if_pos (by omega)]
                refine congrArg _ (funext fun t => ?_)
                rw [if_pos (by omega), if_pos (by omega), w64 (x := (i : Int) + 1) (by omega) (by omega)]
                rfl
              · refine Ev.congr (f := fun n => some true) (fun n => ?_) (Ev.now _)
                rw [if_neg (by omega), rd_nat, hax, tm, if_neg (by omega)]
          · by_cases hne : x / 16777216 ^ i % 16777216 = 0
            · have hz' : x % 16777216 ^ (i + 1) = 0 := by rw [hms, hne, Nat.mul_zero]
              refine Ev.step (f := fun n => vernierref04_Low.l0 n (digs x) (k : Int) ((i + 1 : Nat) : Int)) (fun n => ?_) (ih (i + 1) (by omega) (by omega) hz')
              simp only [vernierref04_Low.j1]
              rw [if_pos trivial, e24, ek, if_neg (by omega), if_pos (by omega), if_pos (by omega), rd_nat, hax, hne, if_pos (by decide), w64 (x := (i : Int) + 1) (by omega) (by omega)]
              rfl
            · have hx0 : x % 2 ^ k ≠ 0 := by
                intro h0
                have h1 : x % 2 ^ (24 * (i + 1)) = 0 := by
                  have : 2 ^ (24 * (i + 1)) ∣ 2 ^ k := Nat.pow_dvd_pow 2 (by omega)
                  exact Nat.mod_eq_zero_of_dvd (Nat.dvd_trans this (Nat.dvd_of_mod_eq_zero h0))
                rw [pow24, hms] at h1
                rcases Nat.mul_eq_zero.mp h1 with h2 | h2
                · have := pw_pos i; omega
                · exact hne h2
              have hres : decide (x % 2 ^ k ≠ 0) = true := by simp [hx0]
              rw [hres]
              refine Ev.step (f := fun n => some true) (fun n => ?_) (Ev.now _)
              simp only [vernierref04_Low.j1]
              rw [if_pos trivial, e24, ek, if_neg (by omega), if_pos (by omega), if_pos (by omega), rd_nat, hax, tmod_nn (by omega), if_neg (by omega)]
    · exact ih i (by omega) hi hz
theorem Low_ev {x k : Nat} (hl : (digs x).length < 100000000) (hk : k < 1000000000) : Ev (fun n => vernierref04_Low.f n (digs x) (k : Int)) (decide (x % 2 ^ k ≠ 0)) :=
  Low_l0 hl hk _ 0 (Nat.le_refl _) (by omega) (by simp [Nat.mod_one])
theorem Word_ev (x : Nat) : Ev (fun n => vernierref04_Word.f n (digs x)) ((x % 18446744073709551616 : Nat) : Int) := by
  have h0 := digit_ev x 0
  have h1 := digit_ev x 1
  have h2 := digit_ev x 2
  rw [Nat.pow_zero, Nat.div_one] at h0
  rw [Nat.pow_one] at h1
  rw [show (16777216 : Nat) ^ 2 = 16777216 * 16777216 from rfl, ← Nat.div_div_eq_div_mul] at h2
  have hx := Nat.div_add_mod x 16777216
  have hx2 := Nat.div_add_mod (x / 16777216) 16777216
  have hx3 := Nat.div_add_mod (x / 16777216 / 16777216) 16777216
  have b0 : x % 16777216 < 16777216 := Nat.mod_lt _ (by decide)
  have b1 : x / 16777216 % 16777216 < 16777216 := Nat.mod_lt _ (by decide)
  have b2 : x / 16777216 / 16777216 % 16777216 < 16777216 := Nat.mod_lt _ (by decide)
  generalize x % 16777216 = d0 at *
  generalize x / 16777216 = y at *
  generalize y % 16777216 = d1 at *
  generalize y / 16777216 = z at *
  generalize z % 16777216 = d2 at *
  generalize z / 16777216 = u at *
  refine Ev.step (f := fun n => vernierref04_Word.l0 n (digs x) (d2 : Int) 1) (fun n => ?_) (Ev.step (f := fun n => vernierref04_Word.l0 n (digs x) ((d2 * 16777216 + d1 : Nat) : Int) 0) (fun n => ?_) (Ev.step (f := fun n => vernierref04_Word.l0 n (digs x) ((x % 18446744073709551616 : Nat) : Int) (-1)) (fun n => ?_) (Ev.step (f := fun n => some _) (fun n => ?_) (Ev.now _))))
  · simp only [vernierref04_Word.f, vernierref04_Word.l0]
    rw [if_pos (by omega), show (2 : Int) = ((2 : Nat) : Int) from rfl, h2]
    simp only [Option.bind_some]
    rw [u64s (x := 0 * 16777216) (by omega) (by omega), u64s (x := (d2 : Int)) (by omega) (by omega), u64s (by omega) (by omega), w64 (by omega) (by omega)]
    congr 1; omega
  · simp only [vernierref04_Word.l0]
    rw [if_pos (by omega), show (1 : Int) = ((1 : Nat) : Int) from rfl, h1]
    simp only [Option.bind_some]
    rw [u64s (x := (d2 : Int) * 16777216) (by omega) (by omega), u64s (x := (d1 : Int)) (by omega) (by omega), u64s (by omega) (by omega), w64 (by omega) (by omega)]
    congr 1
  · simp only [vernierref04_Word.l0]
    rw [if_pos (by omega), show (0 : Int) = ((0 : Nat) : Int) from rfl, h0]
    simp only [Option.bind_some]
    rw [u64w, u64s (x := (d0 : Int)) (by omega) (by omega), u64w, w64 (by omega) (by omega)]
    congr 1
    omega
  · simp only [vernierref04_Word.l0]
    rw [if_neg (by omega)]
end Go.Proofs.Ytpdpggndhmnggaa.M
