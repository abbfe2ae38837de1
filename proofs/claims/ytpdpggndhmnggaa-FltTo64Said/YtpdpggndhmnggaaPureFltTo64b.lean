/- For any number n and any 64 bits: To64 answers as the reference does, with its errors; of NaR no number. No conditions. -/
import Derived.Test.YtpdpggndhmnggaaF24b
import Derived.Test.YtpdpggndhmnggaaFlo10b
namespace Go.Proofs.Ytpdpggndhmnggaa.Pure
open Go.RowKit Go.Proofs.YtpdpggndhmnggaaW.PrintWords Go.Proofs.YtpdpggndhmnggaaW.PrintLast Go.Proofs.YtpdpggndhmnggaaW.PrintMore Go.Proofs.Ytpdpggndhmnggaa.F Go.Proofs.Ytpdpggndhmnggaa.M
set_option linter.unusedVariables false
set_option linter.unusedSimpArgs false
theorem FltTo64 : vernierlaw17_FltTo64.Pure := by
  intro a0 a1 w0 w1
  obtain ⟨p, rfl, hp⟩ := word w1
  refine Ev.rounds ?_
  unfold vernierlaw17_FltTo64.f
  refine Ev.bind shown_ev ?_
  rcases width_or a0 with ⟨n, rfl, h⟩ | h
  · refine Ev.bind (To64_ev h hp) (Ev.bindp (Is_w h) (Ev.congr (fun k => if_pos rfl) (Ev.bind (Decode06_ev h hp) ?_)))
    by_cases hk : kindN n p = 2
    · have e : meansT n p () = (2, false, 0, 0, ()) := by unfold meansT; rw [if_neg (by rw [hk]; decide), hk]
      have e2 : toT n p = 9221120237041090561 := by unfold toT; rw [if_neg (by rw [hk]; decide), if_pos hk]
      rw [e, e2]
      have i : (FloatKind.f64.format.order 9221120237041090561 9221120237041090561 != some .eq) = true := by decide
      refine Ev.congr (fun k => (if_pos rfl).trans ((if_pos rfl).trans ((if_pos rfl).trans (congrArg some i)))) (Ev.now _)
    · have e : (meansT n p ()).1 ≠ 2 := by
        unfold meansT; split
        · exact (show (1 : Int) ≠ 2 by decide)
        · exact hk
      have hr := Long_ev h hp
      rw [ref_long h hk] at hr
      have eb : math_Float64bits.f (toT n p) = some ((toT n p : Nat) : Int) := rfl
      have elong : vernierref17_Long.f = some (52, -1074) := rfl
      refine Ev.congr (fun k => (if_neg e).trans ((if_pos rfl).trans (if_pos rfl))) ?_
      refine Ev.bindp eb (Ev.bindp elong (Ev.bind hr ?_))
      exact Ev.congr (fun k => congrArg some (beq_self_eq_true _)) (Ev.now _)
  · refine Ev.bind (To64_no h) (Ev.bindp (Is_no h) ?_)
    have i : (FloatKind.f64.format.order 0 0 == some .eq) = true := by decide
    exact Ev.congr (fun k => (if_neg (by decide)).trans ((if_pos rfl).trans ((if_pos i).trans (if_neg (by decide))))) (Ev.now _)
end Go.Proofs.Ytpdpggndhmnggaa.Pure
