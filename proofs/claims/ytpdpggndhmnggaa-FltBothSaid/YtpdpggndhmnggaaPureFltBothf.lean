/- For any raw width and any 32 bits: a float32 is rounded as the float64 that is the same number, the negative one to the negative pattern. No conditions. -/
import Derived.Test.YtpdpggndhmnggaaF30f
import Derived.Test.YtpdpggndhmnggaaFlo12f
namespace Go.Proofs.Ytpdpggndhmnggaa.Pure
open Go.RowKit Go.Proofs.YtpdpggndhmnggaaW.PrintWords Go.Proofs.YtpdpggndhmnggaaW.PrintLast Go.Proofs.YtpdpggndhmnggaaW.PrintMore Go.Proofs.Ytpdpggndhmnggaa.F Go.Proofs.Ytpdpggndhmnggaa.M
set_option linter.unusedVariables false
set_option linter.unusedSimpArgs false
theorem FltBoth : vernierlaw17_FltBoth.Pure := by
  intro a0 a1 w0 w1
  obtain ⟨b, rfl, hb⟩ := word32 w1
  obtain ⟨g0, g1⟩ := wf_i64 w0
  obtain ⟨n, hn, hw⟩ := width_ev a0 g0 g1
  refine Ev.rounds ?_
  unfold vernierlaw17_FltBoth.f
  have ebits : math_Float32frombits.f (b : Int) = some b := by unfold math_Float32frombits.f; rw [Int.toNat_natCast]
  refine Ev.bindp ebits ?_
  by_cases c : 2139095040 < b % 2147483648
  · have hb1 : nanB .f32 b = true := by rw [nanB_eq, decide_eq_true c]
    have e32 := From32_ev (a := b) hn
    have er : rd32 n b = 2 ^ (n - 1) := by unfold rd32; rw [if_pos (by omega)]
    rw [er] at e32
    refine Ev.congr (fun k => if_pos hb1) (Ev.bind shown_ev (Ev.bind hw (Ev.bind e32 (Ev.bind (From64_nar hn (by decide) (by decide)) (Ev.bindp (oNeg_nar hn) ?_)))))
    exact Ev.congr (fun k => if_pos ⟨rfl, rfl, rfl, rfl, rfl, rfl⟩) (Ev.now _)
  · have hb1 : ¬ nanB .f32 b = true := by rw [nanB_eq, decide_eq_false c]; decide
    refine Ev.congr (fun k => if_neg hb1) ?_
    unfold vernierlaw17_FltBotho.f
    refine Ev.bind shown_ev (Ev.bind hw (Ev.bindp ebits ?_))
    have e32 := From32_ev (a := b) hn
    unfold flt_From32N.f at e32
    replace e32 : Ev (fun k => flt_From32.f k (n : Int) b) (((rd32 n b : Nat) : Int), none) := Ev.congr (fun k => (if_neg hb1).symm) e32
    by_cases c2 : b % 2147483648 = 2139095040
    · obtain ⟨v, hv, v1, v2⟩ := conv32_inf c2
      obtain ⟨n1, n2, n3⟩ := neg_parts v1
      have er : rd32 n b = 2 ^ (n - 1) := by unfold rd32; rw [if_pos (by omega)]
      rw [er] at e32
      rw [hv]
      refine Ev.bind e32 (Ev.congr (fun k => if_pos rfl) (Ev.bind (From64_nar hn v1 (Nat.le_of_eq v2.symm)) (Ev.congr (fun k => if_pos rfl) (Ev.bind (From64_nar hn n1 (Nat.le_of_eq (n2.trans v2).symm)) (Ev.bindp (oNeg_nar hn) ?_)))))
      refine Ev.congr (fun k => (if_pos rfl).trans ((if_pos rfl).trans ((if_pos rfl).trans ((if_pos rfl).trans ((if_pos rfl).trans (if_pos rfl)))))) ?_
      exact Ev.congr (fun k => congrArg some (beq_self_eq_true _)) (Ev.now _)
    · obtain ⟨v, hv, v1, v2, v3, v4, v5⟩ := conv32 (a := b) (by omega)
      obtain ⟨n1, n2, n3⟩ := neg_parts v1
      have er : rd32 n b = rdF n v := by unfold rd32; rw [if_neg (by omega), v5 n]
      rw [er] at e32
      have f1 := From64_fin hn v1 v2
      have f2 := From64_fin (n := n) (b := Op.negFloat .f64 v) hn n1 (by rw [n2]; exact v2)
      rw [rdF_sz hn v2] at e32 f1
      rw [rdF_sz hn (by rw [n2]; exact v2), n2, n3] at f2
      rw [hv]
      refine Ev.bind e32 (Ev.congr (fun k => if_pos rfl) (Ev.bind f1 (Ev.congr (fun k => if_pos rfl) (Ev.bind f2 (Ev.bindp (oNeg_sign hn _ (szF_le hn _)) ?_)))))
      refine Ev.congr (fun k => (if_pos rfl).trans ((if_pos rfl).trans ((if_pos rfl).trans ((if_pos rfl).trans ((if_pos rfl).trans (if_pos rfl)))))) ?_
      exact Ev.congr (fun k => congrArg some (beq_self_eq_true _)) (Ev.now _)
end Go.Proofs.Ytpdpggndhmnggaa.Pure
