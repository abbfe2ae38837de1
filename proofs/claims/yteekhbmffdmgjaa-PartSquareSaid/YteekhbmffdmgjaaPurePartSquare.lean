/- For all numbers: the root's square and the rest are the number, the rest is at most twice the root, and a square's root is its side. No conditions. -/
import Derived.Test.YteekhbmffdmgjaaF32
import Derived.Test.YteekhbmffdmgjaaRoot
namespace Go.Proofs.Yteekhbmffdmgjaa.Pure
open Go.RowKit Go.Proofs.YteekhbmffdmgjaaW.PrintWords Go.Proofs.YteekhbmffdmgjaaW.PrintLast Go.Proofs.YteekhbmffdmgjaaW.PrintMore Go.Proofs.Yteekhbmffdmgjaa.F Go.Proofs.Yteekhbmffdmgjaa.M
set_option linter.unusedVariables false
set_option linter.unusedSimpArgs false
theorem tw_zero (y : Nat) : tw 0 y = y := by unfold tw; omega
theorem rt_max (v : Nat) : ∀ n s : Nat, v < (s + 2 ^ n) * (s + 2 ^ n) → v < (rt v n s + 1) * (rt v n s + 1)
  | 0, s, h => by simp only [rt]; rw [Nat.pow_zero] at h; exact h
  | n + 1, s, h => by
    simp only [rt]
    split
    · refine rt_max v n _ ?_
      rw [Nat.add_assoc, show 2 ^ n + 2 ^ n = 2 ^ (n + 1) by rw [Nat.pow_succ, Nat.mul_two]]; exact h
    · rename_i g; exact rt_max v n s (Nat.lt_of_not_le g)
theorem rt_top {v : Nat} (hv : v < 340282366920938463463374607431768211456) : v < (rt v 64 0 + 1) * (rt v 64 0 + 1) :=
  rt_max v 64 0 (Nat.lt_of_lt_of_le hv (by decide))
theorem rt_self {a : Nat} (ha : a < 18446744073709551616) : rt (a * a) 64 0 = a := by
  have h1 := rt_sq (a * a) 64 0 (Nat.zero_le _)
  have h2 := rt_top (sq_lt ha)
  have h3 : rt (a * a) 64 0 ≤ a := Nat.mul_self_le_mul_self_iff.mp h1
  have h4 : a < rt (a * a) 64 0 + 1 := Nat.mul_self_lt_mul_self_iff.mp h2
  exact Nat.le_antisymm h3 (Nat.le_of_lt_succ h4)
theorem rest_le {v r : Nat} (h : v < (r + 1) * (r + 1)) : v - r * r ≤ r * 2 := by
  have e : (r + 1) * (r + 1) = r * r + r * 2 + 1 := by rw [Nat.succ_mul, Nat.mul_succ, Nat.mul_two, Nat.add_assoc, Nat.add_assoc, Nat.add_assoc]
  rw [e] at h
  exact Nat.sub_le_iff_le_add'.mpr (Nat.le_of_lt_succ h)
theorem PartSquare : vernierlaw03_PartSquare.Pure := by
  intro a0 a1 b w0 w1 w2
  obtain ⟨h, rfl, h0⟩ := word w0
  obtain ⟨l, rfl, h1⟩ := word w1
  obtain ⟨a, rfl, h2⟩ := word w2
  refine Ev.rounds ?_
  unfold vernierlaw03_PartSquare.f
  have hv := tw_lt h0 h1
  obtain ⟨r, hr⟩ : ∃ r, r = rt (tw h l) 64 0 := ⟨_, rfl⟩
  have hroot := Root_ev h0 h1
  have hsq := rt_sq (tw h l) 64 0 (Nat.zero_le _)
  have hrl := rt_lt (tw h l) 64 0 (by decide)
  have hrest := rest_le (rt_top hv)
  rw [← hr] at hroot hsq hrl hrest
  have hadd : twin_Add.f (hi (r * r)) (lo (r * r)) (hi (tw h l - r * r)) (lo (tw h l - r * r)) = some ((h : Int), (l : Int), false) := by
    have e := Add_hl (r * r) (tw h l - r * r)
    rw [Nat.mod_eq_of_lt (Nat.lt_of_le_of_lt hsq hv), Nat.mod_eq_of_lt (Nat.lt_of_le_of_lt (Nat.sub_le _ _) hv), Nat.add_sub_cancel' hsq, hi_tw h0 h1, lo_tw h1, decide_eq_false (Nat.not_le_of_lt hv)] at e
    exact e
  have hshl := Shl_eq (ah := 0) (al := r) (by decide) hrl 1
  rw [tw_zero, show min 1 128 = 1 by decide, Nat.pow_one] at hshl
  have hr2 : r * 2 < 340282366920938463463374607431768211456 := by clear hadd hroot hsq hrest hshl; omega
  have hcmp := Cmp_hl (tw h l - r * r) (r * 2)
  rw [Nat.mod_eq_of_lt (Nat.lt_of_le_of_lt (Nat.sub_le _ _) hv), Nat.mod_eq_of_lt hr2] at hcmp
  have hle := (cmp_nn0 (tw h l - r * r) (r * 2)).mpr hrest
  have hroot2 := Root_ev (hl_lt (a * a)) (ll_lt (a * a))
  rw [tw_hl, Nat.mod_eq_of_lt (sq_lt h2), rt_self h2, Nat.sub_self] at hroot2
  refine Ev.bind up03 (Ev.bind hroot (Ev.bindp (Mul_eq hrl hrl) (Ev.bindp hadd (Ev.bind hshl (Ev.bindp (Mul_eq h2 h2) (Ev.bind hroot2 ?_))))))
  refine Ev.congr (fun k => if_pos rfl) (Ev.congr (fun k => if_neg (show ¬ (false = true) by decide)) (Ev.congr (fun k => if_pos (show ((h : Int) == (h : Int) && ((l : Int) == (l : Int))) = true by simp)) (Ev.congr (fun k => if_pos rfl) ?_)))
  refine Ev.bindp hcmp (Ev.congr (fun k => if_pos hle) (Ev.congr (fun k => if_pos rfl) (Ev.now _)))
end Go.Proofs.Yteekhbmffdmgjaa.Pure
