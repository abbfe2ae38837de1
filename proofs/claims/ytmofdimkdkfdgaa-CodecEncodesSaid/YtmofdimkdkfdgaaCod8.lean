/- The sixth layer's reference: the string of a scale, and the pattern that means a number; program and reference encode alike. -/
import Derived.Test.YtmofdimkdkfdgaaF10
import Derived.Test.YtmofdimkdkfdgaaF12
import Derived.Test.YtmofdimkdkfdgaaF19
import Derived.Test.YtmofdimkdkfdgaaF20
import Derived.Test.YtmofdimkdkfdgaaCod4
import Derived.Test.YtmofdimkdkfdgaaCod6
namespace Go.Proofs.Ytmofdimkdkfdgaa.M
open Go.RowKit Go.Proofs.YtmofdimkdkfdgaaW.PrintWords Go.Proofs.YtmofdimkdkfdgaaW.PrintLast Go.Proofs.YtmofdimkdkfdgaaW.PrintMore Go.Proofs.Ytmofdimkdkfdgaa.F
set_option linter.unusedVariables false
set_option linter.unusedSimpArgs false
theorem tdiv4 (a : Int) : Int.tdiv a 4 = if 0 ≤ a then a / 4 else -((-a) / 4) := by
  split
  · rename_i h; exact Int.tdiv_eq_ediv_of_nonneg h
  · rename_i h
    have : Int.tdiv a 4 = -(Int.tdiv (-a) 4) := by rw [Int.neg_tdiv, Int.neg_neg]
    rw [this, Int.tdiv_eq_ediv_of_nonneg (by omega)]
theorem regime_eq {a : Int} (h0 : -1000000 ≤ a) (h1 : a ≤ 1000000) : vernierref06_regime.f a = some (a / 4) := by
  unfold vernierref06_regime.f
  rw [tdiv4]
  have e1 : wrap64 (if 0 ≤ a then a / 4 else -((-a) / 4)) = if 0 ≤ a then a / 4 else -((-a) / 4) := w64 (by split <;> omega) (by split <;> omega)
  rw [e1]
  generalize hq : (if 0 ≤ a then a / 4 else -((-a) / 4)) = q
  have hq2 : (0 ≤ a ∧ q = a / 4) ∨ (a < 0 ∧ q = -((-a) / 4)) := by
    rw [← hq]; split <;> omega
  rw [w64 (x := 4 * q) (by omega) (by omega)]
  split
  · rw [w64 (by omega) (by omega)]; congr 1; omega
  · congr 1; omega
theorem head_end {sc : Int} {r : Nat} {ones : Bool} (hr : r ≤ 1000) (h0 : -1000 ≤ sc) (h1 : sc ≤ 1000) :
    Ev (fun k => (vernierref01_Text.f k (IntKind.u64.wrap (wrap64 (sc - wrap64 (4 * (sc / 4))))) 2).bind fun t => if (strOfNums (List.replicate r (if ones = true then (49 : Int) else 48) ++ [if ones = true then (48 : Int) else 49])).size + t.size ≤ 9223372036854775807 then some (strOfNums (List.replicate r (if ones = true then (49 : Int) else 48) ++ [if ones = true then (48 : Int) else 49]) ++ t) else none) (txt (hdN ones r * 4 + (sc % 4).toNat) (r + 3)) := by
  have e1 : IntKind.u64.wrap (wrap64 (sc - wrap64 (4 * (sc / 4)))) = (((sc % 4).toNat : Nat) : Int) := by
    rw [w64 (x := 4 * (sc / 4)) (by omega) (by omega), w64 (by omega) (by omega), u64s (by omega) (by omega)]; omega
  have e2 : strOfNums (List.replicate r (if ones = true then (49 : Int) else 48) ++ [if ones = true then (48 : Int) else 49]) = txt (hdN ones r) (r + 1) := by rw [run_tx]; rfl
  rw [e1, e2]
  refine Ev.bind (Text_ev (x := (sc % 4).toNat) (n := 2) (by omega) (by decide)) ?_
  refine Ev.congr (fun k => if_pos (by rw [txt_size, txt_size]; omega)) ?_
  rw [txt_append, Nat.mod_eq_of_lt (show (sc % 4).toNat < 2 ^ 2 by omega)]
  exact Ev.now _
theorem Head_l1 {sc : Int} (hk : sc / 4 < 0) (h0 : -1000 ≤ sc) (h1 : sc ≤ 1000) : ∀ d j : Nat, runS sc - j ≤ d → j ≤ runS sc → Ev (fun k => vernierref06_Head.l1 k sc (sc / 4) (List.replicate j 48) (-(j : Int))) (txt (hdN false (runS sc) * 4 + (sc % 4).toNat) (runS sc + 3)) := by
  have hr : (runS sc : Int) = -(sc / 4) := by unfold runS; rw [if_neg (by omega)]; omega
  intro d
  induction d with
  | zero =>
    intro j hd hj
    obtain rfl : j = runS sc := by omega
    have he := head_end (r := runS sc) (ones := false) (by omega) h0 h1
    simp only [Bool.false_eq_true, ↓reduceIte] at he
    refine Ev.step (fun k => by simp only [vernierref06_Head.l1, Option.bind_some]; rw [if_neg (by omega), if_neg (by omega), if_pos (by rw [List.length_replicate]; omega)]) he
  | succ d ih =>
    intro j hd hj
    by_cases hgo : j < runS sc
    · refine Ev.step (f := fun k => vernierref06_Head.l1 k sc (sc / 4) (List.replicate (j + 1) 48) (-((j + 1 : Nat) : Int))) (fun k => ?_) (ih (j + 1) (by omega) (by omega))
      simp only [vernierref06_Head.l1]
      rw [if_pos (by omega), if_pos (by rw [List.length_replicate]; omega), w64 (by omega) (by omega), ← List.replicate_succ', show -(j : Int) - 1 = -((j + 1 : Nat) : Int) by omega]
    · exact ih j (by omega) hj
theorem Head_l0 {sc : Int} (hk : 0 ≤ sc / 4) (h0 : -1000 ≤ sc) (h1 : sc ≤ 1000) : ∀ d j : Nat, runS sc - j ≤ d → j ≤ runS sc → Ev (fun k => vernierref06_Head.l0 k sc (sc / 4) (List.replicate j 49) (j : Int)) (txt (hdN true (runS sc) * 4 + (sc % 4).toNat) (runS sc + 3)) := by
  have hr : (runS sc : Int) = sc / 4 + 1 := by unfold runS; rw [if_pos hk]; omega
  intro d
  induction d with
  | zero =>
    intro j hd hj
    obtain rfl : j = runS sc := by omega
    have he := head_end (r := runS sc) (ones := true) (by omega) h0 h1
    simp only [↓reduceIte] at he
    refine Ev.step (f := fun k => vernierref06_Head.l1 k sc (sc / 4) (List.replicate (runS sc) 49) 0) (fun k => by simp only [vernierref06_Head.l0]; rw [if_neg (by omega)]) ?_
    refine Ev.step (fun k => by simp only [vernierref06_Head.l1, Option.bind_some]; rw [if_neg (by omega), if_pos (by omega), if_pos (by rw [List.length_replicate]; omega)]) he
  | succ d ih =>
    intro j hd hj
    by_cases hgo : j < runS sc
    · refine Ev.step (f := fun k => vernierref06_Head.l0 k sc (sc / 4) (List.replicate (j + 1) 49) ((j + 1 : Nat) : Int)) (fun k => ?_) (ih (j + 1) (by omega) (by omega))
      simp only [vernierref06_Head.l0]
      rw [if_pos (by omega), if_pos (by rw [List.length_replicate]; omega), w64 (by omega) (by omega), ← List.replicate_succ']
      rfl
    · exact ih j (by omega) hj
theorem Head_ev {sc : Int} (h0 : -1000 ≤ sc) (h1 : sc ≤ 1000) : Ev (fun k => vernierref06_Head.f k sc) (txt (hdN (decide (0 ≤ sc / 4)) (runS sc) * 4 + (sc % 4).toNat) (runS sc + 3)) := by
  unfold vernierref06_Head.f
  rw [regime_eq (by omega) (by omega)]
  simp only [Option.bind_some]
  by_cases hk : 0 ≤ sc / 4
  · rw [decide_eq_true hk]
    exact Head_l0 hk h0 h1 _ 0 (Nat.le_refl _) (by omega)
  · rw [decide_eq_false hk]
    refine Ev.step (f := fun k => vernierref06_Head.l1 k sc (sc / 4) [] 0) (fun k => by simp only [vernierref06_Head.l0]; rw [if_neg (by omega)]) ?_
    exact Head_l1 (by omega) h0 h1 _ 0 (Nat.le_refl _) (by omega)
theorem Decode06_ev {n p : Nat} (h : Wd n) (hp : p < 18446744073709551616) : Ev (fun k => vernierref06_Decode.f k (n : Int) (p : Int)) ((meansT n p ()).1, (meansT n p ()).2.1, (meansT n p ()).2.2.1, (meansT n p ()).2.2.2.1) := by
  have hd := Decodes_ev h hp
  unfold vernierref06_Decode.f
  unfold meansT at hd ⊢
  by_cases hk : kindN n p = 1
  · rw [if_pos hk] at hd ⊢; exact Ev.bind hd (Ev.now _)
  · rw [if_neg hk] at hd ⊢; exact Ev.bind hd (Ev.now _)
/-- The reference's size out of a number. -/
def rxN (n : Nat) (sc : Int) (fr : Nat) : Nat := ((hdN (decide (0 ≤ sc / 4)) (runS sc) * 4 + (sc % 4).toNat) * 2 ^ 63 + fr % 2 ^ 63) / 2 ^ (runS sc + 66 - (n - 1)) % 2 ^ (n - 1)
theorem rx_lt {n : Nat} (h : Wd n) (sc : Int) (fr : Nat) : rxN n sc fr < 18446744073709551616 :=
  Nat.lt_of_lt_of_le (Nat.mod_lt _ (Nat.pow_pos (by decide))) (pow_le64 (by have := h.le; omega))
theorem rx_good {n p : Nat} {neg : Bool} {sc : Int} {fr : Nat} (h : Wd n) (g : GoodX n neg sc (fr : Int) p) : signN n neg (rxN n sc fr) = p := by
  obtain ⟨hp, hk, h1, h2, h3⟩ := g
  have hn := h.ge
  have hl := h.le
  have hw : 0 < n - 1 := by omega
  have hpw : p < 18446744073709551616 := Nat.lt_of_lt_of_le hp (pow_le64 h.le)
  obtain ⟨d1, d2, d3, d4⟩ := scale_div (x := abN n p) hw
  rw [h2] at d1 d2 d3 d4
  have hr := runN_le (abN n p) (n - 1)
  have hb := fb_le (x := abN n p) hw
  have hs := lf_split (abN n p) (n - 1)
  have heb := eb_le (abN n p) (n - 1)
  have hlf := lfN_lt (x := abN n p) hw
  have hfl := frN_lt (abN n p) (n - 1)
  have hm := mtN_lt (x := abN n p) hw (by omega)
  have hlf2 : n - 1 ≤ runN (abN n p) (n - 1) + 1 + lfN (abN n p) (n - 1) := by unfold lfN; omega
  have hz : ebN (abN n p) (n - 1) < 2 → fbN (abN n p) (n - 1) = 0 := by unfold fbN ebN; omega
  have hc := X_cut (x := abN n p) h
  have e3 : fr % 2 ^ 63 = frN (abN n p) (n - 1) * 2 ^ (63 - fbN (abN n p) (n - 1)) := by
    have : fr = 9223372036854775808 + frN (abN n p) (n - 1) * 2 ^ (63 - fbN (abN n p) (n - 1)) := by unfold mtN at h3; omega
    rw [show (2 : Nat) ^ 63 = 9223372036854775808 from rfl]; omega
  have e4 : frN (abN n p) (n - 1) * 2 ^ (63 - fbN (abN n p) (n - 1)) = frN (abN n p) (n - 1) * 2 ^ (65 - lfN (abN n p) (n - 1)) := by
    rcases Nat.lt_or_ge (ebN (abN n p) (n - 1)) 2 with c | c
    · rw [hz c] at hfl
      rw [show frN (abN n p) (n - 1) = 0 by simpa using hfl, Nat.zero_mul, Nat.zero_mul]
    · congr 2; omega
  have e5 : (sc % 4).toNat = exN (abN n p) (n - 1) := by rw [d2]; rfl
  have e6 : (hdN (topB (abN n p) (n - 1)) (runN (abN n p) (n - 1)) * 4 + exN (abN n p) (n - 1)) * 2 ^ 63 + frN (abN n p) (n - 1) * 2 ^ (65 - lfN (abN n p) (n - 1)) = 2 ^ (65 - lfN (abN n p) (n - 1)) * (hdN (topB (abN n p) (n - 1)) (runN (abN n p) (n - 1)) * 2 ^ lfN (abN n p) (n - 1) + abN n p % 2 ^ lfN (abN n p) (n - 1)) := by
    rw [tail_split]
    unfold exN
    have p1 : 2 ^ (65 - lfN (abN n p) (n - 1)) * 2 ^ lfN (abN n p) (n - 1) = 4 * 2 ^ 63 := by rw [← Nat.pow_add, show 65 - lfN (abN n p) (n - 1) + lfN (abN n p) (n - 1) = 65 by omega]
    have p2 : 2 ^ (65 - lfN (abN n p) (n - 1)) * 2 ^ fbN (abN n p) (n - 1) = 2 ^ (2 - ebN (abN n p) (n - 1)) * 2 ^ 63 := by rw [← Nat.pow_add, ← Nat.pow_add]; congr 1; omega
    generalize hdN (topB (abN n p) (n - 1)) (runN (abN n p) (n - 1)) = H
    generalize eN (abN n p) (n - 1) = E
    generalize frN (abN n p) (n - 1) = F'
    generalize 2 ^ (65 - lfN (abN n p) (n - 1)) = A at *
    generalize 2 ^ lfN (abN n p) (n - 1) = B at *
    generalize 2 ^ fbN (abN n p) (n - 1) = C at *
    generalize 2 ^ (2 - ebN (abN n p) (n - 1)) = D at *
    generalize (2 : Nat) ^ 63 = G at *
    have q1 : (H * 4 + E * D) * G = H * (4 * G) + E * (D * G) := by grind
    have q2 : A * (H * B + (E * C + F')) = H * (A * B) + E * (A * C) + A * F' := by grind
    rw [q1, q2, p1, p2, Nat.mul_comm A F']
  have e7 : rxN n sc fr = abN n p % 2 ^ (n - 1) := by
    unfold rxN
    rw [d3, d4, e5, e3, e4, e6, show runN (abN n p) (n - 1) + 66 - (n - 1) = (65 - lfN (abN n p) (n - 1)) + (runN (abN n p) (n - 1) + 1 + lfN (abN n p) (n - 1) - (n - 1)) by omega, Nat.pow_add, Nat.mul_div_mul_left _ _ (Nat.pow_pos (by decide))]
    exact hc
  rw [e7, ← h1, sign_back h hpw hk, Nat.mod_eq_of_lt hp]
theorem Enc06_j0 {n : Nat} {neg : Bool} {sc : Int} {fr : Nat} {r : Int × Int} (h : Wd n) (h0 : -((4 * n - 8 : Nat) : Int) ≤ sc) (h1 : sc ≤ ((4 * n - 8 : Nat) : Int)) (hfr : fr < 18446744073709551616)
    (hr : Ev (fun k => (vernierref06_Decode.f k (n : Int) (signN n neg (rxN n sc fr) : Int)).bind fun b => if (!(b.1 == 1) || (!(b.2.1 == neg) || (!(b.2.2.1 == sc) || (!(b.2.2.2 == (fr : Int)))))) = true then some ((0 : Int), (8 : Int)) else some ((signN n neg (rxN n sc fr) : Int), (0 : Int))) r) :
    Ev (fun k => vernierref06_Encode.j0 k (n : Int) false 1 neg sc (fr : Int)) r := by
  have hn := h.ge
  have hl := h.le
  obtain ⟨r0, r1⟩ := partsX_run h h0 h1
  refine Ev.step (fun k => by simp only [vernierref06_Encode.j0]; rw [if_neg (by decide)]) ?_
  have hh := Head_ev (sc := sc) (by omega) (by omega)
  have hx := rx_lt h sc fr
  have er : ((hdN (decide (0 ≤ sc / 4)) (runS sc) * 4 + (sc % 4).toNat) * 2 ^ 63 + fr % 2 ^ 63) / 2 ^ (runS sc + 66 - (n - 1)) % 2 ^ (n - 1) = rxN n sc fr := rfl
  have hT := Text_ev (x := fr) (n := 64) hfr (by decide)
  have ht := tail_txt fr 64 (by decide)
  rw [show (64 - 1 : Nat) = 63 from rfl] at ht
  have hN := Number_ev' (x := ((hdN (decide (0 ≤ sc / 4)) (runS sc) * 4 + (sc % 4).toNat) * 2 ^ 63 + fr % 2 ^ 63) / 2 ^ (runS sc + 66 - (n - 1))) (n := n - 1) (by omega)
  rw [er] at hN
  have hA := txt_append (hdN (decide (0 ≤ sc / 4)) (runS sc) * 4 + (sc % 4).toNat) fr (runS sc + 3) 63
  have hE := txt_extract ((hdN (decide (0 ≤ sc / 4)) (runS sc) * 4 + (sc % 4).toNat) * 2 ^ 63 + fr % 2 ^ 63) (runS sc + 66) 0 (n - 1) (by omega) (by omega)
  rw [Nat.sub_zero] at hE
  rw [show runS sc + 3 + 63 = runS sc + 66 by omega] at hA
  clear er
  generalize hdN (decide (0 ≤ sc / 4)) (runS sc) * 4 + (sc % 4).toNat = H at *
  generalize H * 2 ^ 63 + fr % 2 ^ 63 = T at *
  generalize T / 2 ^ (runS sc + 66 - (n - 1)) = U at *
  refine Ev.bind hh (Ev.bind hT ?_)
  refine Ev.congr (fun k => by rw [if_pos (by rw [txt_size]; omega), ht, if_pos (by rw [txt_size, txt_size]; omega), pred_w h, if_pos (by omega), hA, if_pos (by rw [txt_size]; omega), Int.toNat_natCast, hE]) ?_
  refine Ev.bind hN ?_
  cases neg with
  | true =>
    have es : signN n true (rxN n sc fr) = ngN (rxN n sc fr) % 2 ^ n := by unfold signN; rw [if_pos rfl]
    rw [es] at hr
    refine Ev.congr (fun k => if_pos rfl) (Ev.bind (Neg06_ev h hx) ?_)
    generalize ngN (rxN n sc fr) % 2 ^ n = q at *
    exact hr
  | false =>
    have es : signN n false (rxN n sc fr) = rxN n sc fr := by unfold signN; rw [if_neg (by decide)]
    rw [es] at hr
    refine Ev.congr (fun k => if_neg (by decide)) ?_
    generalize rxN n sc fr = q at *
    exact hr
theorem Enc06_start {n : Nat} {kind : Int} {neg : Bool} {sc : Int} {fr : Nat} {r : Int × Int} (h : Wd n)
    (hr : Ev (fun k => if sndB kind neg sc (fr : Int) = true then (if kind = 0 then some (0, 0) else if kind = 2 then some (((2 ^ (n - 1) : Nat) : Int), 0) else if sc < -((4 * n - 8 : Nat) : Int) then some (0, 8) else if sc > ((4 * n - 8 : Nat) : Int) then some (0, 8) else vernierref06_Encode.j0 k (n : Int) false kind neg sc (fr : Int)) else some (0, 1)) r) : Ev (fun k => vernierref06_Encode.f k (n : Int) kind neg sc (fr : Int)) r := by
  have hn := h.ge
  have hl := h.le
  have no : Ev (fun k => vernierref06_Encode.j0 k (n : Int) true kind neg sc (fr : Int)) (0, 8) := Ev.step (f := fun k => some (0, 8)) (fun k => by simp only [vernierref06_Encode.j0]; rfl) (Ev.now _)
  unfold vernierref06_Encode.f
  rw [Is_w h, Sound06_eq]
  simp only [Option.bind_some, ↓reduceIte]
  have e1 : wrap64 (8 - wrap64 (4 * (n : Int))) = -((4 * n - 8 : Nat) : Int) := by rw [w64 (x := 4 * (n : Int)) (by omega) (by omega), w64 (by omega) (by omega)]; omega
  have e2 : wrap64 (wrap64 (4 * (n : Int)) - 8) = ((4 * n - 8 : Nat) : Int) := by rw [w64 (x := 4 * (n : Int)) (by omega) (by omega), w64 (by omega) (by omega)]; omega
  rw [e1, e2, pred_w h]
  by_cases hs : sndB kind neg sc (fr : Int) = true
  · simp only [hs, ↓reduceIte] at hr ⊢
    by_cases k0 : kind = 0
    · simp only [k0, ↓reduceIte] at hr ⊢; exact hr
    · by_cases k2 : kind = 2
      · simp only [k2, ↓reduceIte, show ¬ ((2 : Int) = 0) by decide] at hr ⊢
        exact Ev.bind (Power_ev (by omega)) hr
      · simp only [k0, k2, ↓reduceIte] at hr ⊢
        by_cases c0 : sc < -((4 * n - 8 : Nat) : Int)
        · simp only [c0, ↓reduceIte] at hr ⊢
          obtain ⟨K, hK⟩ := hr
          have := hK K (Nat.le_refl _)
          injection this with this
          rw [← this]
          exact no
        · simp only [c0, ↓reduceIte] at hr ⊢
          by_cases c1 : sc > ((4 * n - 8 : Nat) : Int)
          · simp only [c1, ↓reduceIte, decide_true] at hr ⊢
            obtain ⟨K, hK⟩ := hr
            have := hK K (Nat.le_refl _)
            injection this with this
            rw [← this]
            exact no
          · simp only [c1, ↓reduceIte, decide_false] at hr ⊢
            exact hr
  · simp only [hs, ↓reduceIte, Bool.false_eq_true] at hr ⊢
    exact hr
theorem Encode06_no {a kind : Int} {neg : Bool} {sc fr : Int} (h : NoW a) : Ev (fun k => vernierref06_Encode.f k a kind neg sc fr) (0, 2) := by
  unfold vernierref06_Encode.f
  rw [Is_no h, Sound06_eq]
  exact Ev.now _
theorem Encode06_bad {n : Nat} {kind : Int} {neg : Bool} {sc : Int} {fr : Nat} (h : Wd n) (hs : sndB kind neg sc (fr : Int) = false) : Ev (fun k => vernierref06_Encode.f k (n : Int) kind neg sc (fr : Int)) (0, 1) :=
  Enc06_start h (Ev.congr (fun k => if_neg (by rw [hs]; decide)) (Ev.now _))
theorem Encode06_zero {n : Nat} {neg : Bool} {sc : Int} {fr : Nat} (h : Wd n) (hs : sndB 0 neg sc (fr : Int) = true) : Ev (fun k => vernierref06_Encode.f k (n : Int) 0 neg sc (fr : Int)) (0, 0) :=
  Enc06_start h (Ev.congr (fun k => by rw [if_pos hs, if_pos rfl]) (Ev.now _))
theorem Encode06_nar {n : Nat} {neg : Bool} {sc : Int} {fr : Nat} (h : Wd n) (hs : sndB 2 neg sc (fr : Int) = true) : Ev (fun k => vernierref06_Encode.f k (n : Int) 2 neg sc (fr : Int)) (((2 ^ (n - 1) : Nat) : Int), 0) :=
  Enc06_start h (Ev.congr (fun k => by rw [if_pos hs, if_neg (by decide), if_pos rfl]) (Ev.now _))
theorem Encode06_good {n p : Nat} {neg : Bool} {sc : Int} {fr : Nat} (h : Wd n) (hfr : fr < 18446744073709551616) (g : GoodX n neg sc (fr : Int) p) : Ev (fun k => vernierref06_Encode.f k (n : Int) 1 neg sc (fr : Int)) ((p : Int), 0) := by
  obtain ⟨h0, h1⟩ := sc_range h g
  have hw : p < 18446744073709551616 := Nat.lt_of_lt_of_le g.1 (pow_le64 h.le)
  have hs : sndB 1 neg sc (fr : Int) = true := means_sound h (goodX_means g ())
  refine Enc06_start h (Ev.congr (fun k => by rw [if_pos hs, if_neg (by decide), if_neg (by decide), if_neg (by omega), if_neg (by omega)]) (Enc06_j0 h h0 h1 hfr ?_))
  rw [rx_good h g]
  have hd := Decode06_ev h hw
  rw [goodX_means g] at hd
  refine Ev.bind hd ?_
  exact Ev.congr (fun k => if_neg (fun hh => (ne4 ..).mp hh ⟨rfl, rfl, rfl, rfl⟩)) (Ev.now _)
theorem Encode06_none {n : Nat} {neg : Bool} {sc : Int} {fr : Nat} (h : Wd n) (hfr : fr < 18446744073709551616) (hs : sndB 1 neg sc (fr : Int) = true) (hno : ∀ p, ¬ GoodX n neg sc (fr : Int) p) : Ev (fun k => vernierref06_Encode.f k (n : Int) 1 neg sc (fr : Int)) (0, 8) := by
  by_cases h0 : sc < -((4 * n - 8 : Nat) : Int)
  · exact Enc06_start h (Ev.congr (fun k => by rw [if_pos hs, if_neg (by decide), if_neg (by decide), if_pos h0]) (Ev.now _))
  · by_cases h1 : sc > ((4 * n - 8 : Nat) : Int)
    · exact Enc06_start h (Ev.congr (fun k => by rw [if_pos hs, if_neg (by decide), if_neg (by decide), if_neg h0, if_pos h1]) (Ev.now _))
    · refine Enc06_start h (Ev.congr (fun k => by rw [if_pos hs, if_neg (by decide), if_neg (by decide), if_neg h0, if_neg h1]) (Enc06_j0 h (by omega) (by omega) hfr ?_))
      have hq := sign_lt h neg (rx_lt h sc fr)
      refine Ev.bind (Decode06_ev h hq) ?_
      refine Ev.congr (fun k => if_pos ((ne4 ..).mpr ?_)) (Ev.now _)
      rintro ⟨g1, g2, g3, g4⟩
      exact hno _ (means_goodX (e := ()) (e' := ()) h hq (Prod.ext g1 (Prod.ext g2 (Prod.ext g3 (Prod.ext g4 rfl)))))
/-- Program and reference encode alike. -/
theorem Encode_both {a kind : Int} {neg : Bool} {sc : Int} {fr : Nat} (hfr : fr < 18446744073709551616) :
    ∃ (r : Int) (e : Option Int) (c : Int), Ev (fun k => codec_Encode.f k a kind neg sc (fr : Int)) (r, e) ∧ Ev (fun k => vernierref06_Encode.f k a kind neg sc (fr : Int)) (r, c) ∧ vernierlaw00_Code.f e = some c := by
  rcases width_or a with ⟨n, rfl, h⟩ | h
  · by_cases hs : sndB kind neg sc (fr : Int) = true
    · by_cases k0 : kind = 0
      · subst k0; exact ⟨_, _, _, Encode_zero h hfr hs, Encode06_zero h hs, rfl⟩
      · by_cases k2 : kind = 2
        · subst k2; exact ⟨_, _, _, Encode_nar h hfr hs, Encode06_nar h hs, rfl⟩
        · have k1 : kind = 1 := by
            unfold sndB at hs
            rw [if_neg (by intro g; rcases g with g | g; exact k0 g; exact k2 g), decide_eq_true_eq] at hs
            exact hs.1
          subst k1
          by_cases hg : ∃ q, GoodX n neg sc (fr : Int) q
          · obtain ⟨q, g⟩ := hg
            exact ⟨_, _, _, Encode_good h hfr g, Encode06_good h hfr g, rfl⟩
          · exact ⟨_, _, _, Encode_none h hfr hs (fun q g => hg ⟨q, g⟩), Encode06_none h hfr hs (fun q g => hg ⟨q, g⟩), rfl⟩
    · exact ⟨_, _, _, Encode_bad h hfr (by simpa using hs), Encode06_bad h (by simpa using hs), rfl⟩
  · exact ⟨_, _, _, Encode_no h, Encode06_no h, rfl⟩
end Go.Proofs.Ytmofdimkdkfdgaa.M
