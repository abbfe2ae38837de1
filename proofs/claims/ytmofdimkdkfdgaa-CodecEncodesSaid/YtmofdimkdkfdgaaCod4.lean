/- The sixth layer's reference: the string that parts seem to write, and the pattern that it joins; program and reference agree on any parts. -/
import Derived.Test.YtmofdimkdkfdgaaF12
import Derived.Test.YtmofdimkdkfdgaaF13
import Derived.Test.YtmofdimkdkfdgaaF15
import Derived.Test.YtmofdimkdkfdgaaF16
import Derived.Test.YtmofdimkdkfdgaaCod3
namespace Go.Proofs.Ytmofdimkdkfdgaa.M
open Go.RowKit Go.Proofs.YtmofdimkdkfdgaaW.PrintWords Go.Proofs.YtmofdimkdkfdgaaW.PrintLast Go.Proofs.YtmofdimkdkfdgaaW.PrintMore Go.Proofs.Ytmofdimkdkfdgaa.F
set_option linter.unusedVariables false
set_option linter.unusedSimpArgs false

theorem Fold06_ev {n a : Nat} (h : Wd n) (ha : a < 18446744073709551616) : Ev (fun k => vernierref06_Fold.f k (n : Int) (a : Int)) ((a % 2 ^ n : Nat) : Int) := by
  unfold vernierref06_Fold.f
  exact Ev.bind (Fold05_ev h ha) (Ev.now _)
theorem Neg06_ev {n a : Nat} (h : Wd n) (ha : a < 18446744073709551616) : Ev (fun k => vernierref06_Neg.f k (n : Int) (a : Int)) ((ngN a % 2 ^ n : Nat) : Int) := by
  unfold vernierref06_Neg.f
  rw [neg_word ha]
  exact Ev.bind (Fold06_ev h (ngN_lt a)) (Ev.now _)
theorem ones_tx (r : Nat) : List.replicate r (49 : Int) = tx (2 ^ r - 1) r := by
  induction r with
  | zero => rfl
  | succ r ih =>
    have hp : 0 < 2 ^ r := Nat.pow_pos (by decide)
    have e1 : (2 ^ (r + 1) - 1) / 2 ^ r % 2 = 1 := by
      rw [Nat.pow_succ, show 2 ^ r * 2 - 1 = 2 ^ r * 1 + (2 ^ r - 1) by omega, Nat.mul_add_div hp, Nat.div_eq_of_lt (by omega)]
    have e2 : (2 ^ (r + 1) - 1) % 2 ^ r = 2 ^ r - 1 := by
      rw [Nat.pow_succ, show 2 ^ r * 2 - 1 = 2 ^ r * 1 + (2 ^ r - 1) by omega, Nat.mul_add_mod, Nat.mod_eq_of_lt (by omega)]
    rw [List.replicate_succ, tx, e1, ih, ← tx_mod (2 ^ (r + 1) - 1) r r (Nat.le_refl _), e2]
    rfl
theorem zeros_tx (r : Nat) : List.replicate r (48 : Int) = tx 0 r := by
  induction r with
  | zero => rfl
  | succ r ih => rw [List.replicate_succ, tx, ih, Nat.zero_div]; rfl
/-- A run and the bit that ends it. -/
def hdN (ones : Bool) (r : Nat) : Nat := if ones = true then (2 ^ r - 1) * 2 else 1
theorem run_tx (ones : Bool) (r : Nat) : List.replicate r (if ones = true then (49 : Int) else 48) ++ [if ones = true then (48 : Int) else 49] = tx (hdN ones r) (r + 1) := by
  unfold hdN
  cases ones with
  | true =>
    have : [(48 : Int)] = tx 0 1 := rfl
    simp only [↓reduceIte]
    rw [ones_tx, this, tx_append]; rfl
  | false =>
    have : [(49 : Int)] = tx 1 1 := rfl
    simp only [Bool.false_eq_true, ↓reduceIte]
    rw [zeros_tx, this, tx_append, Nat.zero_mul]
/-- The string that parts seem to write. -/
def wrE (ex eb : Int) : Bool := decide (0 ≤ eb ∧ eb ≤ 2 ∧ 0 ≤ ex ∧ ex ≤ 3)
def wrF (fb : Int) : Bool := decide (0 ≤ fb ∧ fb ≤ 64)
def wrX (ones : Bool) (run eb ex fb : Int) (fr : Nat) : Nat × Nat :=
  let a : Nat × Nat := (hdN ones (min run.toNat 63), min run.toNat 63 + 1)
  let b : Nat × Nat := if wrE ex eb = true then (a.1 * 2 ^ eb.toNat + ex.toNat / 2 ^ (2 - eb.toNat) % 2 ^ eb.toNat, a.2 + eb.toNat) else a
  if wrF fb = true then (b.1 * 2 ^ fb.toNat + fr % 2 ^ fb.toNat, b.2 + fb.toNat) else b
theorem wr_j3 {neg ones : Bool} {run rg eb ex fb : Int} {fr A L : Nat} (hL : L ≤ 64) (hfr : fr < 18446744073709551616) :
    Ev (fun k => vernierref06_written.j3 k (txt A L) (wrE ex eb) neg ones run rg eb ex fb (fr : Int))
      (let b : Nat × Nat := if wrE ex eb = true then (A * 2 ^ eb.toNat + ex.toNat / 2 ^ (2 - eb.toNat) % 2 ^ eb.toNat, L + eb.toNat) else (A, L)
       let c : Nat × Nat := if wrF fb = true then (b.1 * 2 ^ fb.toNat + fr % 2 ^ fb.toNat, b.2 + fb.toNat) else b
       txt c.1 c.2) := by
  have tail : ∀ B M : Nat, M ≤ 66 → Ev (fun k => if fb ≥ 0 then (if fb ≤ 64 then ((vernierref01_Text.f k (fr : Int) fb).bind fun t => if (txt B M).size + t.size ≤ 9223372036854775807 then some (txt B M ++ t) else none) else some (txt B M)) else some (txt B M)) (let c : Nat × Nat := if wrF fb = true then (B * 2 ^ fb.toNat + fr % 2 ^ fb.toNat, M + fb.toNat) else (B, M); txt c.1 c.2) := by
    intro B M hM
    by_cases h0 : fb ≥ 0
    · by_cases h1 : fb ≤ 64
      · obtain ⟨b, rfl⟩ := Int.eq_ofNat_of_zero_le h0
        have hw : wrF (b : Int) = true := by unfold wrF; rw [decide_eq_true_eq]; omega
        simp only [hw, ↓reduceIte, Int.toNat_natCast]
        refine Ev.congr (fun k => by rw [if_pos h0, if_pos h1]) (Ev.bind (Text_ev (x := fr) (n := b) hfr (by omega)) ?_)
        refine Ev.congr (fun k => if_pos (by rw [txt_size, txt_size]; omega)) ?_
        rw [txt_append]
        exact Ev.now _
      · have hw : wrF fb = false := by unfold wrF; rw [decide_eq_false_iff_not]; omega
        simp only [hw, Bool.false_eq_true, ↓reduceIte]
        exact Ev.congr (fun k => by rw [if_pos h0, if_neg h1]) (Ev.now _)
    · have hw : wrF fb = false := by unfold wrF; rw [decide_eq_false_iff_not]; omega
      simp only [hw, Bool.false_eq_true, ↓reduceIte]
      exact Ev.congr (fun k => by rw [if_neg h0]) (Ev.now _)
  by_cases hE : wrE ex eb = true
  · have hE2 := hE
    unfold wrE at hE2
    rw [decide_eq_true_eq] at hE2
    obtain ⟨e, rfl⟩ := Int.eq_ofNat_of_zero_le hE2.1
    obtain ⟨x, rfl⟩ := Int.eq_ofNat_of_zero_le hE2.2.2.1
    simp only [hE, ↓reduceIte, Int.toNat_natCast]
    refine Ev.step (fun k => by simp only [vernierref06_written.j3]; rw [if_pos trivial]) ?_
    rw [u64s (x := (x : Int)) (by omega) (by omega)]
    refine Ev.bind (Text_ev (x := x) (n := 2) (by omega) (by decide)) ?_
    have e1 : (txt x 2).extract 0 e = txt (x / 2 ^ (2 - e)) e := by rw [txt_extract _ _ _ _ (by omega) (by omega), Nat.sub_zero]
    refine Ev.congr (fun k => by rw [if_pos (by omega), if_pos (by rw [txt_size]; omega), Int.toNat_natCast, e1, txt_append, if_pos (by rw [txt_size, txt_size]; omega)]) ?_
    exact tail _ _ (by omega)
  · simp only [hE, Bool.false_eq_true, ↓reduceIte]
    refine Ev.step (fun k => by simp only [vernierref06_written.j3]; rw [if_neg (by simp)]) ?_
    exact tail _ _ (by omega)
theorem wr_j2 {neg ones : Bool} {run rg eb ex fb : Int} {fr r : Nat} (hr : r ≤ 63) (hfr : fr < 18446744073709551616) (he : r = min run.toNat 63) :
    Ev (fun k => vernierref06_written.j2 k (List.replicate r (if ones = true then (49 : Int) else 48)) (if ones = true then (49 : Int) else 48) neg ones run rg eb ex fb (fr : Int)) (txt (wrX ones run eb ex fb fr).1 (wrX ones run eb ex fb fr).2) := by
  have e1 : (97 - (if ones = true then (49 : Int) else 48)) % 256 = if ones = true then (48 : Int) else 49 := by cases ones <;> rfl
  have e2 : strOfNums (List.replicate r (if ones = true then (49 : Int) else 48) ++ [if ones = true then (48 : Int) else 49]) = txt (hdN ones r) (r + 1) := by rw [run_tx]; rfl
  have hj := wr_j3 (neg := neg) (ones := ones) (run := run) (rg := rg) (eb := eb) (ex := ex) (fb := fb) (A := hdN ones r) (L := r + 1) (by omega) hfr
  refine Ev.step (f := fun k => vernierref06_written.j3 k (txt (hdN ones r) (r + 1)) (wrE ex eb) neg ones run rg eb ex fb (fr : Int)) (fun k => ?_) ?_
  · simp only [vernierref06_written.j2]
    rw [if_pos (by rw [List.length_replicate]; omega), e1, Option.bind_some, e2]
    by_cases c1 : eb ≥ 0
    · rw [if_pos c1]
      by_cases c2 : eb ≤ 2
      · rw [if_pos c2]
        by_cases c3 : ex ≥ 0
        · rw [if_pos c3, show wrE ex eb = decide (ex ≤ 3) by unfold wrE; rw [Bool.eq_iff_iff, decide_eq_true_eq, decide_eq_true_eq]; omega]
        · rw [if_neg c3, show wrE ex eb = false by unfold wrE; rw [decide_eq_false_iff_not]; omega]
      · rw [if_neg c2, show wrE ex eb = false by unfold wrE; rw [decide_eq_false_iff_not]; omega]
    · rw [if_neg c1, show wrE ex eb = false by unfold wrE; rw [decide_eq_false_iff_not]; omega]
  · unfold wrX
    rw [← he]
    exact hj
theorem wr_l0 {neg ones : Bool} {run rg eb ex fb : Int} {fr : Nat} (hrun : run ≤ 9223372036854775807) (hfr : fr < 18446744073709551616) : ∀ d i : Nat, min run.toNat 63 - i ≤ d → i ≤ min run.toNat 63 →
    Ev (fun k => vernierref06_written.l0 k (List.replicate i (if ones = true then (49 : Int) else 48)) (if ones = true then (49 : Int) else 48) (i : Int) neg ones run rg eb ex fb (fr : Int)) (txt (wrX ones run eb ex fb fr).1 (wrX ones run eb ex fb fr).2) := by
  intro d
  induction d with
  | zero =>
    intro i hd hi
    obtain rfl : i = min run.toNat 63 := by omega
    refine Ev.step (f := fun k => vernierref06_written.j2 k (List.replicate (min run.toNat 63) (if ones = true then (49 : Int) else 48)) (if ones = true then (49 : Int) else 48) neg ones run rg eb ex fb (fr : Int)) (fun k => ?_) (wr_j2 (by omega) hfr rfl)
    simp only [vernierref06_written.l0]
    by_cases h1 : ((min run.toNat 63 : Nat) : Int) < run
    · rw [if_pos h1, if_neg (by omega)]
    · rw [if_neg h1]
  | succ d ih =>
    intro i hd hi
    by_cases hgo : i < min run.toNat 63
    · refine Ev.step (f := fun k => vernierref06_written.l0 k (List.replicate (i + 1) (if ones = true then (49 : Int) else 48)) (if ones = true then (49 : Int) else 48) ((i + 1 : Nat) : Int) neg ones run rg eb ex fb (fr : Int)) (fun k => ?_) (ih (i + 1) (by omega) (by omega))
      simp only [vernierref06_written.l0]
      rw [if_pos (by omega), if_pos (by omega), if_pos (by rw [List.length_replicate]; omega), w64 (by omega) (by omega), ← List.replicate_succ']
      rfl
    · exact ih i (by omega) hi
theorem written_ev {neg ones : Bool} {run rg eb ex fb : Int} {fr : Nat} (hrun : run ≤ 9223372036854775807) (hfr : fr < 18446744073709551616) :
    Ev (fun k => vernierref06_written.f k neg ones run rg eb ex fb (fr : Int)) (txt (wrX ones run eb ex fb fr).1 (wrX ones run eb ex fb fr).2) := by
  have hl := wr_l0 (neg := neg) (ones := ones) (run := run) (rg := rg) (eb := eb) (ex := ex) (fb := fb) hrun hfr _ 0 (Nat.le_refl _) (by omega)
  refine Ev.congr (f := fun k => vernierref06_written.j0 k [] (if ones = true then (49 : Int) else 48) neg ones run rg eb ex fb (fr : Int)) (fun k => ?_) ?_
  · unfold vernierref06_written.f; cases ones <;> rfl
  · exact Ev.step (fun k => by simp only [vernierref06_written.j0]; rfl) hl
theorem wrX_len (ones : Bool) (run eb ex fb : Int) (fr : Nat) : (wrX ones run eb ex fb fr).2 ≤ 130 := by
  unfold wrX
  by_cases h1 : wrE ex eb = true
  · have h1' := h1
    unfold wrE at h1'
    rw [decide_eq_true_eq] at h1'
    by_cases h2 : wrF fb = true
    · have h2' := h2
      unfold wrF at h2'
      rw [decide_eq_true_eq] at h2'
      simp only [h1, h2, ↓reduceIte]; omega
    · simp only [h1, h2, ↓reduceIte, Bool.false_eq_true]; omega
  · by_cases h2 : wrF fb = true
    · have h2' := h2
      unfold wrF at h2'
      rw [decide_eq_true_eq] at h2'
      simp only [h1, h2, ↓reduceIte, Bool.false_eq_true]; omega
    · simp only [h1, h2, ↓reduceIte, Bool.false_eq_true]; omega
/-- The reference's size out of parts. -/
def rmN (n : Nat) (ones : Bool) (run eb ex fb : Int) (fr : Nat) : Nat := (wrX ones run eb ex fb fr).1 / 2 ^ ((wrX ones run eb ex fb fr).2 - (n - 1)) % 2 ^ (n - 1)
theorem rm_lt {n : Nat} (h : Wd n) (ones : Bool) (run eb ex fb : Int) (fr : Nat) : rmN n ones run eb ex fb fr < 18446744073709551616 :=
  Nat.lt_of_lt_of_le (Nat.mod_lt _ (Nat.pow_pos (by decide))) (pow_le64 (by have := h.le; omega))
theorem Join06_ev {n : Nat} {neg ones : Bool} {run rg eb ex fb : Int} {fr : Nat} (h : Wd n) (hrun : run ≤ 9223372036854775807) (hfr : fr < 18446744073709551616) :
    Ev (fun k => vernierref06_Join.f k (n : Int) neg ones run rg eb ex fb (fr : Int))
      (if n - 1 ≤ (wrX ones run eb ex fb fr).2 ∧ splitF n (signN n neg (rmN n ones run eb ex fb fr)) = (neg, ones, run, rg, eb, ex, fb, (fr : Int)) ∧ run ≠ 0 then ((signN n neg (rmN n ones run eb ex fb fr) : Int), 0) else (0, 23)) := by
  have h1 := h.le
  have h2 := h.ge
  have hlen := wrX_len ones run eb ex fb fr
  have hm := rm_lt h ones run eb ex fb fr
  unfold vernierref06_Join.f
  rw [Is_w h]
  simp only [Option.bind_some, ↓reduceIte, pred_w h]
  refine Ev.bind (written_ev (neg := neg) (rg := rg) hrun hfr) ?_
  by_cases hL : n - 1 ≤ (wrX ones run eb ex fb fr).2
  · refine Ev.congr (fun k => by rw [txt_size, if_neg (by omega), if_pos (by omega), if_pos (by omega), Int.toNat_natCast, txt_extract _ _ _ _ (by omega) hL, Nat.sub_zero]) ?_
    refine Ev.bind (Number_ev' (by omega)) ?_
    have er : (wrX ones run eb ex fb fr).1 / 2 ^ ((wrX ones run eb ex fb fr).2 - (n - 1)) % 2 ^ (n - 1) = rmN n ones run eb ex fb fr := rfl
    rw [er]
    have fin : ∀ q : Nat, q < 18446744073709551616 → q = signN n neg (rmN n ones run eb ex fb fr) → Ev (fun k => (vernierref06_Split.f k (n : Int) (q : Int)).bind fun s => if (!(s.1 == neg) || (!(s.2.1 == ones) || (!(s.2.2.1 == run) || (!(s.2.2.2.1 == rg) || (!(s.2.2.2.2.1 == eb) || (!(s.2.2.2.2.2.1 == ex) || (!(s.2.2.2.2.2.2.1 == fb) || (!(s.2.2.2.2.2.2.2.1 == (fr : Int)))))))))) = true then some (0, 23) else if run = 0 then some ((0 : Int), (23 : Int)) else some ((q : Int), (0 : Int))) (if n - 1 ≤ (wrX ones run eb ex fb fr).2 ∧ splitF n (signN n neg (rmN n ones run eb ex fb fr)) = (neg, ones, run, rg, eb, ex, fb, (fr : Int)) ∧ run ≠ 0 then ((signN n neg (rmN n ones run eb ex fb fr) : Int), 0) else (0, 23)) := by
      intro q hq he
      rw [← he]
      have hs := Split06_ev h hq
      rw [splitT_F] at hs
      rcases hg : splitF n q with ⟨g1, g2, g3, g4, g5, g6, g7, g8⟩
      rw [hg] at hs
      simp only [F8.with] at hs
      by_cases hC : n - 1 ≤ (wrX ones run eb ex fb fr).2 ∧ ((g1, g2, g3, g4, g5, g6, g7, g8) : F8) = (neg, ones, run, rg, eb, ex, fb, (fr : Int)) ∧ run ≠ 0
      · rw [if_pos hC]
        refine Ev.bind hs (Ev.congr (fun k => if_neg (fun hh => (ne8 ..).mp hh hC.2.1)) ?_)
        exact Ev.congr (fun k => if_neg hC.2.2) (Ev.now _)
      · rw [if_neg hC]
        refine Ev.bind hs ?_
        by_cases hg2 : ((g1, g2, g3, g4, g5, g6, g7, g8) : F8) = (neg, ones, run, rg, eb, ex, fb, (fr : Int))
        · have h0 : run = 0 := by
            rcases Classical.em (run = 0) with h0 | h0
            · exact h0
            · exact absurd ⟨hL, hg2, h0⟩ hC
          refine Ev.congr (fun k => if_neg (fun hh => (ne8 ..).mp hh hg2)) ?_
          exact Ev.congr (fun k => if_pos h0) (Ev.now _)
        · exact Ev.congr (fun k => if_pos ((ne8 ..).mpr hg2)) (Ev.now _)
    cases neg with
    | true =>
      refine Ev.congr (fun k => if_pos rfl) (Ev.bind (Neg06_ev h hm) ?_)
      exact fin _ (mod_lt64 h _) rfl
    | false =>
      refine Ev.congr (fun k => if_neg (by decide)) ?_
      exact fin _ hm rfl
  · rw [if_neg (fun hh => hL hh.1)]
    exact Ev.congr (fun k => by rw [txt_size, if_pos (by omega)]) (Ev.now _)
theorem Join06_no {a : Int} {neg ones : Bool} {run rg eb ex fb fr : Int} (h : NoW a) : Ev (fun k => vernierref06_Join.f k a neg ones run rg eb ex fb fr) (0, 2) := by
  unfold vernierref06_Join.f
  rw [Is_no h]
  exact Ev.now _
/-- A run, its end and what stands behind, cut to the string's length. -/
theorem X_cut {n x : Nat} (h : Wd n) : (hdN (topB x (n - 1)) (runN x (n - 1)) * 2 ^ lfN x (n - 1) + x % 2 ^ lfN x (n - 1)) / 2 ^ (runN x (n - 1) + 1 + lfN x (n - 1) - (n - 1)) % 2 ^ (n - 1) = x % 2 ^ (n - 1) := by
  have h1 := h.le
  have h2 := h.ge
  have hw : 0 < n - 1 := by omega
  have hr := runN_le x (n - 1)
  have hb := base_split (x := x) hw
  rcases Nat.lt_or_ge (runN x (n - 1)) (n - 1) with hl | hl
  · have e0 : runN x (n - 1) + 1 + lfN x (n - 1) - (n - 1) = 0 := by unfold lfN; omega
    have e1 : hdN (topB x (n - 1)) (runN x (n - 1)) * 2 ^ lfN x (n - 1) = baseN x (n - 1) := by
      unfold hdN baseN
      split
      · rw [Nat.mul_assoc, ← Nat.pow_succ']; congr 2; unfold lfN; omega
      · rw [Nat.one_mul]
        try rw [if_pos hl]
        congr 1; unfold lfN; omega
    rw [e0, e1, Nat.pow_zero, Nat.div_one, ← hb, Nat.mod_mod]
  · have hrw : runN x (n - 1) = n - 1 := by omega
    have e0 : runN x (n - 1) + 1 + lfN x (n - 1) - (n - 1) = 1 := by unfold lfN; omega
    have e1 : lfN x (n - 1) = 0 := by unfold lfN; omega
    rw [e0, e1, Nat.pow_zero, Nat.mul_one, Nat.mod_one, Nat.add_zero, Nat.pow_one]
    rw [e1, Nat.pow_zero, Nat.mod_one, Nat.add_zero] at hb
    unfold hdN
    unfold baseN at hb
    by_cases ht : topB x (n - 1) = true
    · rw [if_pos ht] at hb ⊢
      rw [Nat.mul_div_cancel _ (by decide), hb, hrw, Nat.sub_self, Nat.pow_zero, Nat.mul_one, Nat.mod_eq_of_lt (by have := Nat.pow_pos (n := n - 1) (show 0 < 2 by decide); omega)]
    · rw [if_neg ht, if_neg (by omega)] at hb
      rw [if_neg ht, hb]
      exact Nat.zero_mod _
/-- The parts of a Real write its size. -/
theorem wr_parts {n x : Nat} (h : Wd n) (hx : 0 < x % 2 ^ (n - 1)) : n - 1 ≤ (wrX (topB x (n - 1)) (runN x (n - 1)) (ebN x (n - 1)) (exN x (n - 1)) (fbN x (n - 1)) (frN x (n - 1))).2 ∧ rmN n (topB x (n - 1)) (runN x (n - 1)) (ebN x (n - 1)) (exN x (n - 1)) (fbN x (n - 1)) (frN x (n - 1)) = x % 2 ^ (n - 1) := by
  have h1 := h.le
  have h2 := h.ge
  have hw : 0 < n - 1 := by omega
  have hr := runN_le x (n - 1)
  have he := eb_le x (n - 1)
  have hex := exN_lt x (n - 1)
  have hf := fb_le (x := x) hw
  have hs := lf_split x (n - 1)
  have hel := eN_lt x (n - 1)
  have hfl := frN_lt x (n - 1)
  have hlt := Nat.mod_lt x (Nat.pow_pos (n := n - 1) (show 0 < 2 by decide))
  have hE : wrE (exN x (n - 1) : Int) (ebN x (n - 1) : Int) = true := by unfold wrE; rw [decide_eq_true_eq]; omega
  have hF : wrF (fbN x (n - 1) : Int) = true := by unfold wrF; rw [decide_eq_true_eq]; omega
  have em : min ((runN x (n - 1) : Int)).toNat 63 = runN x (n - 1) := by rw [Int.toNat_natCast]; omega
  have eX : wrX (topB x (n - 1)) (runN x (n - 1)) (ebN x (n - 1)) (exN x (n - 1)) (fbN x (n - 1)) (frN x (n - 1)) = (hdN (topB x (n - 1)) (runN x (n - 1)) * 2 ^ lfN x (n - 1) + x % 2 ^ lfN x (n - 1), runN x (n - 1) + 1 + lfN x (n - 1)) := by
    unfold wrX
    rw [em]
    simp only [hE, hF, ↓reduceIte, Int.toNat_natCast]
    rw [exN_div, Nat.mod_eq_of_lt hel, Nat.mod_eq_of_lt hfl, tail_split, hs]
    refine Prod.ext ?_ ?_
    · show (hdN (topB x (n - 1)) (runN x (n - 1)) * 2 ^ ebN x (n - 1) + eN x (n - 1)) * 2 ^ fbN x (n - 1) + frN x (n - 1) = _
      rw [Nat.pow_add]; grind
    · show runN x (n - 1) + 1 + ebN x (n - 1) + fbN x (n - 1) = _
      omega
  have hb := base_split (x := x) hw
  unfold rmN
  rw [eX]
  refine ⟨by show n - 1 ≤ runN x (n - 1) + 1 + lfN x (n - 1); unfold lfN; omega, ?_⟩
  exact X_cut h
theorem Join06_good {n p : Nat} (h : Wd n) (hp : p < 2 ^ n) (hk : kindN n p = 1) : Ev (fun k => vernierref06_Join.f k (n : Int) (partsF n p).1 (partsF n p).2.1 (partsF n p).2.2.1 (partsF n p).2.2.2.1 (partsF n p).2.2.2.2.1 (partsF n p).2.2.2.2.2.1 (partsF n p).2.2.2.2.2.2.1 (partsF n p).2.2.2.2.2.2.2) ((p : Int), 0) := by
  have h1 := h.le
  have h2 := h.ge
  have hw : p < 18446744073709551616 := Nat.lt_of_lt_of_le hp (pow_le64 h.le)
  have hr := runN_le (abN n p) (n - 1)
  have hr0 := runN_pos (x := abN n p) (n := n - 1) (by omega)
  have hf := frN_lt (abN n p) (n - 1)
  have hf2 := fb_le (x := abN n p) (w := n - 1) (by omega)
  have hf3 := pow_le64 (show fbN (abN n p) (n - 1) ≤ 64 by omega)
  have hj := Join06_ev (neg := topB p n) (ones := topB (abN n p) (n - 1)) (run := runN (abN n p) (n - 1)) (rg := rgI (abN n p) (n - 1)) (eb := ebN (abN n p) (n - 1)) (ex := exN (abN n p) (n - 1)) (fb := fbN (abN n p) (n - 1)) (fr := frN (abN n p) (n - 1)) h (by omega) (by omega)
  obtain ⟨w1, w2⟩ := wr_parts (x := abN n p) h (ab_pos h hw hk)
  have hs : splitF n p = (topB p n, topB (abN n p) (n - 1), (runN (abN n p) (n - 1) : Int), rgI (abN n p) (n - 1), (ebN (abN n p) (n - 1) : Int), (exN (abN n p) (n - 1) : Int), (fbN (abN n p) (n - 1) : Int), (frN (abN n p) (n - 1) : Int)) := by unfold splitF; rw [if_pos hk]; rfl
  rw [w2, sign_back h hw hk, Nat.mod_eq_of_lt hp, if_pos ⟨w1, hs, by omega⟩] at hj
  exact hj
theorem Join06_none {n : Nat} {neg ones : Bool} {run rg eb ex fb fr : Int} (h : Wd n) (hrun : run ≤ 9223372036854775807) (hfr : 0 ≤ fr ∧ fr < 18446744073709551616) (hno : ∀ p, ¬ Good n (neg, ones, run, rg, eb, ex, fb, fr) p) : Ev (fun k => vernierref06_Join.f k (n : Int) neg ones run rg eb ex fb fr) (0, 23) := by
  obtain ⟨f, rfl⟩ := Int.eq_ofNat_of_zero_le hfr.1
  have hj := Join06_ev (neg := neg) (ones := ones) (run := run) (rg := rg) (eb := eb) (ex := ex) (fb := fb) (fr := f) h hrun (by omega)
  rw [if_neg] at hj
  · exact hj
  · rintro ⟨_, hh, h0⟩
    exact hno _ (good_of h (sign_lt h neg (rm_lt h ones run eb ex fb f)) h0 hh)
/-- Program and reference join alike. -/
theorem Join_both {a : Int} {neg ones : Bool} {run rg eb ex fb fr : Int} (hrun : run ≤ 9223372036854775807) (hfr : 0 ≤ fr ∧ fr < 18446744073709551616) :
    ∃ (r : Int) (e : Option Int) (c : Int), Ev (fun k => codec_Join.f k a neg ones run rg eb ex fb fr) (r, e) ∧ Ev (fun k => vernierref06_Join.f k a neg ones run rg eb ex fb fr) (r, c) ∧ vernierlaw00_Code.f e = some c := by
  rcases width_or a with ⟨n, rfl, h⟩ | h
  · by_cases hg : ∃ p, Good n (neg, ones, run, rg, eb, ex, fb, fr) p
    · obtain ⟨p, hp, hk, hf⟩ := hg
      have j1 := Join_good h hp hk
      have j2 := Join06_good h hp hk
      rw [hf] at j1 j2
      exact ⟨_, _, _, j1, j2, rfl⟩
    · exact ⟨_, _, _, Join_none h hfr (fun p hp => hg ⟨p, hp⟩), Join06_none h hrun hfr (fun p hp => hg ⟨p, hp⟩), rfl⟩
  · exact ⟨_, _, _, Join_no h, Join06_no h, rfl⟩
end Go.Proofs.Ytmofdimkdkfdgaa.M
