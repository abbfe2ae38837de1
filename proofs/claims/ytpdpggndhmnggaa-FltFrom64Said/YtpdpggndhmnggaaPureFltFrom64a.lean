/- For any number n and any 64 bits: From64 of the float64 of these bits answers as the reference does, with its errors. No conditions. -/
import Derived.Test.YtpdpggndhmnggaaF23a
import Derived.Test.YtpdpggndhmnggaaFlo10a
namespace Go.Proofs.Ytpdpggndhmnggaa.Pure
open Go.RowKit Go.Proofs.YtpdpggndhmnggaaW.PrintWords Go.Proofs.YtpdpggndhmnggaaW.PrintLast Go.Proofs.YtpdpggndhmnggaaW.PrintMore Go.Proofs.Ytpdpggndhmnggaa.F Go.Proofs.Ytpdpggndhmnggaa.M
set_option linter.unusedVariables false
set_option linter.unusedSimpArgs false
theorem FltFrom64 : vernierlaw17_FltFrom64.Pure := by
  intro a0 a1 w0 w1
  obtain ⟨b, rfl, hb⟩ := word w1
  refine Ev.rounds ?_
  unfold vernierlaw17_FltFrom64.f
  refine Ev.bind shown_ev ?_
  have ebits : math_Float64frombits.f (b : Int) = some b := by unfold math_Float64frombits.f; rw [Int.toNat_natCast]
  refine Ev.bindp ebits ?_
  have elong : vernierref17_Long.f = some (52, -1074) := rfl
  rcases width_or a0 with ⟨n, rfl, h⟩ | h
  · have hr := FormL h hb
    by_cases c : 9218868437227405312 ≤ b % 9223372036854775808
    · rw [if_pos (show b / 4503599627370496 % 2048 = 2047 by omega)] at hr
      refine Ev.bind (From64_nar h hb c) (Ev.bindp elong (Ev.bind hr ?_))
      exact Ev.congr (fun k => (if_pos rfl).trans (if_pos rfl)) (Ev.now _)
    · rw [if_neg (show ¬ b / 4503599627370496 % 2048 = 2047 by omega), rdF_ref hb (by omega)] at hr
      refine Ev.bind (From64_fin h hb (by omega)) (Ev.bindp elong (Ev.bind hr ?_))
      exact Ev.congr (fun k => (if_pos rfl).trans (if_pos rfl)) (Ev.now _)
  · refine Ev.bind (From64_no h hb) (Ev.bindp elong (Ev.bind (Form_no h) ?_))
    exact Ev.congr (fun k => (if_pos rfl).trans (if_pos rfl)) (Ev.now _)
end Go.Proofs.Ytpdpggndhmnggaa.Pure
