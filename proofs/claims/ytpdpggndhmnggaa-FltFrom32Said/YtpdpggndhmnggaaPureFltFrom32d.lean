/- For any number n and any 32 bits: From32 of the float32 of these bits answers as the reference does, with its errors. No conditions. -/
import Derived.Test.YtpdpggndhmnggaaF25d
import Derived.Test.YtpdpggndhmnggaaFlo11d
namespace Go.Proofs.Ytpdpggndhmnggaa.Pure
open Go.RowKit Go.Proofs.YtpdpggndhmnggaaW.PrintWords Go.Proofs.YtpdpggndhmnggaaW.PrintLast Go.Proofs.YtpdpggndhmnggaaW.PrintMore Go.Proofs.Ytpdpggndhmnggaa.F Go.Proofs.Ytpdpggndhmnggaa.M
set_option linter.unusedVariables false
set_option linter.unusedSimpArgs false
theorem FltFrom32 : vernierlaw17_FltFrom32.Pure := by
  intro a0 a1 w0 w1
  obtain ⟨b, rfl, hb⟩ := word32 w1
  refine Ev.rounds ?_
  unfold vernierlaw17_FltFrom32.f
  refine Ev.bind shown_ev ?_
  have ebits : math_Float32frombits.f (b : Int) = some b := by unfold math_Float32frombits.f; rw [Int.toNat_natCast]
  refine Ev.bindp ebits ?_
  have eshort : vernierref17_Short.f = some (23, -149) := rfl
  rcases width_or a0 with ⟨n, rfl, h⟩ | h
  · refine Ev.bind (From32_ev h) (Ev.bindp eshort ?_)
    rw [u64s (by omega) (by omega)]
    refine Ev.bind (FormS h hb) ?_
    exact Ev.congr (fun k => (if_pos rfl).trans (if_pos rfl)) (Ev.now _)
  · refine Ev.bind (From32_no h) (Ev.bindp eshort (Ev.bind (Form_no h) ?_))
    exact Ev.congr (fun k => (if_pos rfl).trans (if_pos rfl)) (Ev.now _)
end Go.Proofs.Ytpdpggndhmnggaa.Pure
