/- The sixth layer's reference: the string of a scale, and the pattern that means a number; program and reference encode alike. -/
import Derived.Test.YtpdpggndhmnggaaF16d
import Derived.Test.YtpdpggndhmnggaaF20d
import Derived.Test.YtpdpggndhmnggaaF21d
import Derived.Test.YtpdpggndhmnggaaCod6d
namespace Go.Proofs.Ytpdpggndhmnggaa.M
open Go.RowKit Go.Proofs.YtpdpggndhmnggaaW.PrintWords Go.Proofs.YtpdpggndhmnggaaW.PrintLast Go.Proofs.YtpdpggndhmnggaaW.PrintMore Go.Proofs.Ytpdpggndhmnggaa.F
set_option linter.unusedVariables false
set_option linter.unusedSimpArgs false
theorem tdiv4 (a : Int) : Int.tdiv a 4 = if 0 ≤ a then a / 4 else -((-a) / 4) := by
  split
  · rename_i h; exact Int.tdiv_eq_ediv_of_nonneg h
  · rename_i h
    have : Int.tdiv a 4 = -(Int.tdiv (-a) 4) := by rw [Int.neg_tdiv, Int.neg_neg]
    rw [this, Int.tdiv_eq_ediv_of_nonneg (by omega)]
theorem regime_eq {a : Int} (h0 : -1000000 ≤ a) (h1 : a ≤ 1000000) : vernierref06_regime.f a = some (a / 4) := by
  unfold vernierref06_regime.f
  rw [tdiv4]
  have e1 : wrap64 (if 0 ≤ a then a / 4 else -((-a) / 4)) = if 0 ≤ a then a / 4 else -((-a) / 4) := w64 (by split <;> omega) (by split <;> omega)
  rw [e1]
  generalize hq : (if 0 ≤ a then a / 4 else -((-a) / 4)) = q
  have hq2 : (0 ≤ a ∧ q = a / 4) ∨ (a < 0 ∧ q = -((-a) / 4)) := by
    rw [← hq]; split <;> omega
  rw [w64 (x := 4 * q) (by omega) (by omega)]
  split
  · rw [w64 (by omega) (by omega)]; congr 1; omega
  · congr 1; omega
theorem head_end {sc : Int} {r : Nat} {ones : Bool} (hr : r ≤ 1000) (h0 : -1000 ≤ sc) (h1 : sc ≤ 1000) :
    Ev (fun k => (vernierref01_Text.f k (IntKind.u64.wrap (wrap64 (sc - wrap64 (4 * (sc / 4))))) 2).bind fun t => if (strOfNums (List.replicate r (if ones = true then (49 : Int) else 48) ++ [if ones = true then (48 : Int) else 49])).size + t.size ≤ 9223372036854775807 then some (strOfNums (List.replicate r (if ones = true then (49 : Int) else 48) ++ [if ones = true then (48 : Int) else 49]) ++ t) else none) (txt (hdN ones r * 4 + (sc % 4).toNat) (r + 3)) := by
  have e1 : IntKind.u64.wrap (wrap64 (sc - wrap64 (4 * (sc / 4)))) = (((sc % 4).toNat : Nat) : Int) := by
    rw [w64 (x := 4 * (sc / 4)) (by omega) (by omega), w64 (by omega) (by omega), u64s (by omega) (by omega)]; omega
  have e2 : strOfNums (List.replicate r (if ones = true then (49 : Int) else 48) ++ [if ones = true then (48 : Int) else 49]) = txt (hdN ones r) (r + 1) := by rw [run_tx]; rfl
  rw [e1, e2]
  refine Ev.bind (Text_ev (x := (sc % 4).toNat) (n := 2) (by omega) (by decide)) ?_
  refine Ev.congr (fun k => if_pos (by rw [txt_size, txt_size]; omega)) ?_
  rw [txt_append, Nat.mod_eq_of_lt (show (sc % 4).toNat < 2 ^ 2 by omega)]
  exact Ev.now _
theorem Head_l1 {sc : Int} (hk : sc / 4 < 0) (h0 : -1000 ≤ sc) (h1 : sc ≤ 1000) : ∀ d j : Nat, runS sc - j ≤ d → j ≤ runS sc → Ev (fun k => vernierref06_Head.l1 k sc (sc / 4) (List.replicate j 48) (-(j : Int))) (txt (hdN false (runS sc) * 4 + (sc % 4).toNat) (runS sc + 3)) := by
  have hr : (runS sc : Int) = -(sc / 4) := by unfold runS; rw [if_neg (by omega)]; omega
  intro d
  induction d with
  | zero =>
    intro j hd hj
    obtain rfl : j = runS sc := by omega
    have he := head_end (r := runS sc) (ones := false) (by omega) h0 h1
    simp only [Bool.false_eq_true, ↓reduceIte] at he
    refine Ev.step (fun k => by simp only [vernierref06_Head.l1, Option.bind_some]; rw [if_neg (by omega), if_neg (by omega), if_pos (by rw [List.length_replicate]; omega)]) he
  | succ d ih =>
    intro j hd hj
    by_cases hgo : j < runS sc
    · refine Ev.step (f := fun k => vernierref06_Head.l1 k sc (sc / 4) (List.replicate (j + 1) 48) (-((j + 1 : Nat) : Int))) (fun k => ?_) (ih (j + 1) (by omega) (by omega))
      simp only [vernierref06_Head.l1]
      rw [if_pos (by omega), if_pos (by rw [List.length_replicate]; omega), w64 (by omega) (by omega), ← List.replicate_succ', show -(j : Int) - 1 = -((j + 1 : Nat) : Int) by omega]
    · exact ih j (by omega) hj
theorem Head_l0 {sc : Int} (hk : 0 ≤ sc / 4) (h0 : -1000 ≤ sc) (h1 : sc ≤ 1000) : ∀ d j : Nat, runS sc - j ≤ d → j ≤ runS sc → Ev (fun k => vernierref06_Head.l0 k sc (sc / 4) (List.replicate j 49) (j : Int)) (txt (hdN true (runS sc) * 4 + (sc % 4).toNat) (runS sc + 3)) := by
  have hr : (runS sc : Int) = sc / 4 + 1 := by unfold runS; rw [if_pos hk]; omega
  intro d
  induction d with
  | zero =>
    intro j hd hj
    obtain rfl : j = runS sc := by omega
    have he := head_end (r := runS sc) (ones := true) (by omega) h0 h1
    simp only [↓reduceIte] at he
    refine Ev.step (f := fun k => vernierref06_Head.l1 k sc (sc / 4) (List.replicate (runS sc) 49) 0) (fun k => by simp only [vernierref06_Head.l0]; rw [if_neg (by omega)]) ?_
    refine Ev.step (fun k => by simp only [vernierref06_Head.l1, Option.bind_some]; rw [if_neg (by omega), if_pos (by omega), if_pos (by rw [List.length_replicate]; omega)]) he
  | succ d ih =>
    intro j hd hj
    by_cases hgo : j < runS sc
    · refine Ev.step (f := fun k => vernierref06_Head.l0 k sc (sc / 4) (List.replicate (j + 1) 49) ((j + 1 : Nat) : Int)) (fun k => ?_) (ih (j + 1) (by omega) (by omega))
      simp only [vernierref06_Head.l0]
      rw [if_pos (by omega), if_pos (by rw [List.length_replicate]; omega), w64 (by omega) (by omega), ← List.replicate_succ']
      rfl
    · exact ih j (by omega) hj
theorem Head_ev {sc : Int} (h0 : -1000 ≤ sc) (h1 : sc ≤ 1000) : Ev (fun k => vernierref06_Head.f k sc) (txt (hdN (decide (0 ≤ sc / 4)) (runS sc) * 4 + (sc % 4).toNat) (runS sc + 3)) := by
  unfold vernierref06_Head.f
  rw [regime_eq (by omega) (by omega)]
  simp only [Option.bind_some]
  by_cases hk : 0 ≤ sc / 4
  · rw [decide_eq_true hk]
    exact Head_l0 hk h0 h1 _ 0 (Nat.le_refl _) (by omega)
  · rw [decide_eq_false hk]
    refine Ev.step (f := fun k => vernierref06_Head.l1 k sc (sc / 4) [] 0) (fun k => by simp only [vernierref06_Head.l0]; rw [if_neg (by omega)]) ?_
    exact Head_l1 (by omega) h0 h1 _ 0 (Nat.le_refl _) (by omega)
end Go.Proofs.Ytpdpggndhmnggaa.M
