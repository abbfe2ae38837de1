/- For any number n, pattern and rank: patterns and ranks lead to one another, the least rank is NaR's, the greatest the greatest value's; of no width each call answers its error. No conditions. -/
import Derived.Test.YtjbcfiigafbobaaF28
import Derived.Test.YtjbcfiigafbobaaShapeLaw
namespace Go.Proofs.Ytjbcfiigafbobaa.Pure
open Go.RowKit Go.Proofs.YtjbcfiigafbobaaW.PrintWords Go.Proofs.YtjbcfiigafbobaaW.PrintLast Go.Proofs.YtjbcfiigafbobaaW.PrintMore Go.Proofs.Ytjbcfiigafbobaa.F Go.Proofs.Ytjbcfiigafbobaa.M
set_option linter.unusedVariables false
set_option linter.unusedSimpArgs false
theorem ShapeBack : vernierlaw05_ShapeBack.Pure := by
  intro a0 a1 r w0 w1 w2
  obtain ⟨p, rfl, hp⟩ := word w1
  refine Ev.rounds ?_
  unfold vernierlaw05_ShapeBack.f
  refine Ev.bindp up05 ?_
  rcases width_or a0 with ⟨n, rfl, h⟩ | h
  · have hm : p % 2 ^ n < 18446744073709551616 := Nat.lt_of_le_of_lt (Nat.mod_le _ _) hp
    have hh := half_lt h
    have hr := ext_range h p
    have e1 : ext (asW (ext p n)) n = ext p n := ext_asW h hr.1 hr.2
    have e2 : shape_Pattern.f (n : Int) (ext p n) = some (((p % 2 ^ n : Nat) : Int), none) := by rw [Pattern_eq h, if_pos e1, asW_ext h]
    have e3 : shape_Fold.f (n : Int) ((p % 2 ^ n : Nat) : Int) = some (((p % 2 ^ n : Nat) : Int), none) := by rw [Fold_eq h hm, Nat.mod_mod]
    have e4 : shape_Rank.f (n : Int) ((2 ^ (n - 1) : Nat) : Int) = some (-((2 ^ (n - 1) : Nat) : Int), none) := by rw [Rank_eq h hh, ext_nar h]
    have e5 : shape_Rank.f (n : Int) ((2 ^ (n - 1) - 1 : Nat) : Int) = some (((2 ^ (n - 1) : Nat) : Int) - 1, none) := by rw [Rank_eq h (by omega), ext_most h]
    obtain ⟨low, hlow⟩ : ∃ z, z = -((2 ^ (n - 1) : Nat) : Int) := ⟨_, rfl⟩
    obtain ⟨high, hhigh⟩ : ∃ z, z = ((2 ^ (n - 1) : Nat) : Int) - 1 := ⟨_, rfl⟩
    rw [← hlow] at e4 hr
    rw [← hhigh] at e5 hr
    simp only [Of_eq h, Option.bind_some, Option.isNone_none, ↓reduceIte, Fold_eq h hp, e3, Rank_eq h hp, e2, e4, e5]
    refine Ev.congr (f := fun k => vernierlaw05_ShapeBack.j0 k (n : Int) r low high false) (fun k => ?_) (Ev.step (fun k => by simp only [vernierlaw05_ShapeBack.j0]; rfl) ?_)
    · rw [if_neg (by omega), decide_eq_false (by omega)]
    · simp only [Bool.false_eq_true, ↓reduceIte, Pattern_eq h, Option.bind_some]
      by_cases hin : low ≤ r ∧ r ≤ high
      · have e6 : ext (asW r) n = r := ext_asW h (by omega) (by omega)
        have hl : asW r % 2 ^ n < 18446744073709551616 := Nat.lt_of_le_of_lt (Nat.mod_le _ _) (asW_lt r)
        have e7 : shape_Rank.f (n : Int) ((asW r % 2 ^ n : Nat) : Int) = some (r, none) := by rw [Rank_eq h hl, ext_mod, e6]
        simp only [if_pos e6, Option.isNone_none, ↓reduceIte, e7, Option.bind_some]
        refine Ev.congr (f := fun _ => some true) (fun k => ?_) (Ev.now _)
        rw [if_pos (by omega), decide_eq_true (by omega)]
      · have e6 : ¬ ext (asW r) n = r := by
          intro h6
          have := ext_range h (asW r)
          rw [h6] at this
          omega
        simp only [if_neg e6, Option.isNone_some, Bool.false_eq_true, ↓reduceIte, Option.getD_some]
        refine Ev.congr (f := fun _ => some true) (fun k => ?_) (Ev.now _)
        by_cases hlt : r < low
        · rw [if_pos hlt]
        · rw [if_neg hlt, decide_eq_true (by omega)]
  · simp only [Of_no h, Rank_no h, Option.bind_some, Option.isNone_some, Bool.false_eq_true, ↓reduceIte, Option.getD_some, beq_self_eq_true]
    exact Ev.now _
end Go.Proofs.Ytjbcfiigafbobaa.Pure
