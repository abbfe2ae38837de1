/- For any number n and any 64 bits: To32 answers as the reference does, with its errors; of NaR no number. No conditions. -/
import Derived.Test.YtpdpggndhmnggaaF26c
import Derived.Test.YtpdpggndhmnggaaFlo10c
namespace Go.Proofs.Ytpdpggndhmnggaa.Pure
open Go.RowKit Go.Proofs.YtpdpggndhmnggaaW.PrintWords Go.Proofs.YtpdpggndhmnggaaW.PrintLast Go.Proofs.YtpdpggndhmnggaaW.PrintMore Go.Proofs.Ytpdpggndhmnggaa.F Go.Proofs.Ytpdpggndhmnggaa.M
set_option linter.unusedVariables false
set_option linter.unusedSimpArgs false
theorem FltTo32 : vernierlaw17_FltTo32.Pure := by
  intro a0 a1 w0 w1
  obtain ⟨p, rfl, hp⟩ := word w1
  refine Ev.rounds ?_
  unfold vernierlaw17_FltTo32.f
  rcases width_or a0 with ⟨n, rfl, h⟩ | h
  · refine Ev.bind (Decode_ev h hp) ?_
    by_cases hk : kindN n p = 2
    · have e : meansT n p (none : Option Int) = (2, false, 0, 0, none) := by unfold meansT; rw [if_neg (by rw [hk]; decide), hk]
      have e3 : meansT n p () = (2, false, 0, 0, ()) := by unfold meansT; rw [if_neg (by rw [hk]; decide), hk]
      have hd := Decode06_ev h hp
      rw [e3] at hd
      rw [e]
      refine Ev.congr (fun k => if_pos ⟨rfl, rfl⟩) (Ev.bind shown_ev (Ev.bindp (Is_w h) (Ev.bind hd ?_)))
      exact Ev.congr (fun k => if_pos ⟨rfl, rfl, rfl⟩) (Ev.now _)
    · have e0 : ¬ ((meansT n p (none : Option Int)).1 = 2 ∧ (meansT n p (none : Option Int)).2.2.2.2.isNone = true) := by
        intro h2
        have := h2.1
        unfold meansT at this
        split at this
        · exact absurd this (show ¬ (1 : Int) = 2 by decide)
        · exact hk this
      have e : (meansT n p ()).1 ≠ 2 := by
        unfold meansT; split
        · exact (show (1 : Int) ≠ 2 by decide)
        · exact hk
      refine Ev.congr (fun k => if_neg e0) ?_
      unfold vernierlaw17_FltTo32o.f
      refine Ev.bind shown_ev (Ev.bind (To32_ev h hp hk) (Ev.bindp (Is_w h) (Ev.congr (fun k => if_pos rfl) (Ev.bind (Decode06_ev h hp) ?_))))
      have hr := Short_ev h hp
      rw [ref_short h] at hr
      have hlt : toS n p < 18446744073709551616 := by
        unfold toS
        split
        · have f0 := mt_ge (abN n p) (n - 1)
          have f1 := mt_word (n := n) (p := p) h
          have := toW_lt (sc := scI (abN n p) (n - 1)) f0 f1
          split <;> omega
        · decide
      have eb : math_Float32bits.f (toS n p) = some ((toS n p : Nat) : Int) := rfl
      have es : vernierref17_Short.f = some (23, -149) := rfl
      refine Ev.congr (fun k => (if_neg e).trans ((if_pos rfl).trans (if_pos rfl))) ?_
      refine Ev.bindp eb (Ev.bindp es (Ev.bind hr ?_))
      rw [u64s (by omega) (by omega)]
      exact Ev.congr (fun k => congrArg some (beq_self_eq_true _)) (Ev.now _)
  · refine Ev.bind (Decode_no h) (Ev.congr (fun k => if_neg (by simp)) ?_)
    unfold vernierlaw17_FltTo32o.f
    refine Ev.bind shown_ev (Ev.bind (To32_no h) (Ev.bindp (Is_no h) ?_))
    have i : (FloatKind.f32.format.order 0 0 == some .eq) = true := by decide
    exact Ev.congr (fun k => (if_neg (by decide)).trans ((if_pos rfl).trans ((if_pos i).trans (if_neg (by decide))))) (Ev.now _)
end Go.Proofs.Ytpdpggndhmnggaa.Pure
