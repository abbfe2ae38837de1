/- Of any width and any two numbers: what is more is rounded to no less; the negative number to the negative pattern, the sign kept. No conditions. -/
import Derived.Test.YtlllaoihpkdpmaaF24c
import Derived.Test.YtlllaoihpkdpmaaInts4c
namespace Go.Proofs.Ytlllaoihpkdpmaa.Pure
open Go.RowKit Go.Proofs.YtlllaoihpkdpmaaW.PrintWords Go.Proofs.YtlllaoihpkdpmaaW.PrintLast Go.Proofs.YtlllaoihpkdpmaaW.PrintMore Go.Proofs.Ytlllaoihpkdpmaa.F Go.Proofs.Ytlllaoihpkdpmaa.M
set_option linter.unusedVariables false
set_option linter.unusedSimpArgs false
theorem rise_j0 {n : Nat} {v w : Int} (hn : Wd n) (h : v ≤ w) (hv : -9223372036854775808 ≤ v) (hw : w < 9223372036854775808) : Ev (fun k => vernierlaw16_IntsRise.j0 k v w true (n : Int)) true := by
  have e1 := FromInt_ev (v := v) hn hv (by omega)
  have e2 := FromInt_ev (v := w) hn (by omega) hw
  have e3 := oCmp_v hn (rdI_word hn v) (rdI_word hn w)
  have hm := rdI_mono hn h hv hw
  have hv2 := rdI_ext hn v
  have hS := rdS_le hn (szI v)
  refine Ev.step (fun k => by simp only [vernierlaw16_IntsRise.j0]; rfl) (Ev.bind e1 (Ev.bind e2 (Ev.bindp e3 ?_)))
  simp only [Option.isNone_none, ↓reduceIte]
  have hd : decide ((if ext (rdI n v) n < ext (rdI n w) n then (-1 : Int) else if ext (rdI n v) n > ext (rdI n w) n then 1 else 0) > 0) = false := by
    rw [decide_eq_false_iff_not]; split
    · decide
    · rw [if_neg (by omega)]; decide
  rw [hd]
  by_cases c : v = -9223372036854775808
  · refine Ev.step (f := fun _ => some true) (fun k => ?_) (Ev.now _)
    simp only [vernierlaw16_IntsRise.j1]; rw [if_neg (by decide), if_pos c]
  · have hneg : wrap64 (-v) = -v := w64 (by omega) (by omega)
    have e4 := FromInt_ev (v := -v) hn (by omega) (by omega)
    have e5 := oNeg_v hn (rdI_word hn v)
    have hp : 0 < 2 ^ (n - 1) := Nat.pow_pos (by decide)
    have hk : kindN n (rdI n v) ≠ 2 := not_nar hn (by rw [hv2]; split <;> omega)
    have e6 := oSign_v hn (rdI_word hn v) hk
    have et : ngN (rdI n v) % 2 ^ n = rdI n (-v) := by
      unfold rdI
      rw [rdV_S hn, rdV_S hn, sign_turn hn _ hS, show szI (-v) = szI v by unfold szI; omega]
      by_cases z : v = 0
      · have : rdS n (szI v) = 0 := by rw [z]; rfl
        rw [this]
        unfold signN
        rcases hn with rfl | rfl | rfl | rfl <;> (rw [z]; rfl)
      · congr 1
        rw [Bool.eq_iff_iff]; simp; omega
    rw [et] at e5
    refine Ev.step (fun k => by simp only [vernierlaw16_IntsRise.j1]; rw [if_neg (by decide), if_neg c, hneg]) (Ev.bind e4 (Ev.bindp e5 (Ev.bindp e6 ?_)))
    have hpos : ext (rdI n v) n < 0 ↔ v < 0 := by
      rw [hv2]
      constructor
      · intro g
        rcases Int.lt_or_le v 0 with z | z
        · exact z
        · rw [if_neg (by omega)] at g; omega
      · intro g
        rw [if_pos g]
        have := rdS_pos hn (v := szI v) (by unfold szI; omega)
        omega
    have hzero : ext (rdI n v) n = 0 ↔ v = 0 := by
      rw [hv2]
      constructor
      · intro g
        rcases Int.lt_trichotomy v 0 with z | z | z
        · rw [if_pos z] at g
          have := rdS_pos hn (v := szI v) (by unfold szI; omega)
          omega
        · exact z
        · rw [if_neg (by omega)] at g
          have := rdS_pos hn (v := szI v) (by unfold szI; omega)
          omega
      · intro g
        rw [g]
        rfl
    generalize ext (rdI n v) n = x at *
    simp only [Option.isNone_none, ↓reduceIte]
    have b1 : (((if x < 0 then (-1 : Int) else if x > 0 then 1 else 0) == 0) == (v == 0)) = true := by
      rw [beq_iff_eq, Bool.eq_iff_iff, beq_iff_eq, beq_iff_eq, ← hzero]
      split
      · omega
      · split <;> omega
    have b2 : ((decide ((if x < 0 then (-1 : Int) else if x > 0 then 1 else 0) < 0)) == (decide (v < 0))) = true := by
      rw [beq_iff_eq, Bool.eq_iff_iff, decide_eq_true_eq, decide_eq_true_eq, ← hpos]
      split
      · omega
      · split <;> omega
    rw [b1, b2]
    exact Ev.now _
theorem IntsRise : vernierlaw16_IntsRise.Pure := by
  intro a0 v w w0 w1 w2
  obtain ⟨ha0, ha1⟩ := wf_i64 w0
  obtain ⟨hv0, hv1⟩ := wf_i64 w1
  obtain ⟨hw0, hw1⟩ := wf_i64 w2
  obtain ⟨n, hn, hwd⟩ := width_ev a0 ha0 ha1
  refine Ev.rounds ?_
  unfold vernierlaw16_IntsRise.f
  refine Ev.bind shown_ev (Ev.bind hwd ?_)
  by_cases c : v > w
  · exact Ev.congr (fun k => if_pos c) (rise_j0 hn (by omega) hw0 hv1)
  · exact Ev.congr (fun k => if_neg c) (rise_j0 hn (by omega) hv0 hw1)
end Go.Proofs.Ytlllaoihpkdpmaa.Pure
