/- For all numbers of 128 bits and divisors of 64: quotient times divisor, and what is left, are the whole again, and the three calls agree; by nought each answers its error. No conditions. -/
import Derived.Test.YtcnpnnodgfpheaaF11
import Derived.Test.YtcnpnnodgfpheaaR03
import Derived.Test.YtcnpnnodgfpheaaTwinHL
namespace Go.Proofs.Ytcnpnnodgfpheaa.Pure
open Go.RowKit Go.Proofs.YtcnpnnodgfpheaaW.PrintWords Go.Proofs.YtcnpnnodgfpheaaW.PrintLast Go.Proofs.YtcnpnnodgfpheaaW.PrintMore Go.Proofs.Ytcnpnnodgfpheaa.F Go.Proofs.Ytcnpnnodgfpheaa.M
set_option linter.unusedVariables false
set_option linter.unusedSimpArgs false
theorem small_hi {x : Nat} (h : x < 18446744073709551616) : hi x = 0 ∧ lo x = (x : Int) := by
  unfold hi lo; exact ⟨congrArg _ (show x / 18446744073709551616 % 18446744073709551616 = 0 by omega), congrArg _ (by omega)⟩
theorem back_j1 {A y q r P1 P0 : Nat} (hA : A < 340282366920938463463374607431768211456) (hy : y < 18446744073709551616) (hq : q < 340282366920938463463374607431768211456) (hr : r < 18446744073709551616)
    (e1 : P1 = q / 18446744073709551616 * y) (e0 : P0 = q % 18446744073709551616 * y) (hT : P1 * 18446744073709551616 + P0 + r = A) :
    Ev (fun k => vernierlaw03_PartBack.j1 k (y : Int) (lo r) false (hi A) (lo A) (hi q) (lo q)) true := by
  have q1 : hi q = ((q / 18446744073709551616 : Nat) : Int) := by unfold hi; exact congrArg _ (by omega)
  have m1 := Mul_eq (x := q / 18446744073709551616) (y := y) (by omega) hy
  have m0 := Mul_eq (x := q % 18446744073709551616) (y := y) (by omega) hy
  rw [← e1] at m1
  rw [← e0] at m0
  have q0 : lo q = ((q % 18446744073709551616 : Nat) : Int) := rfl
  rw [← q1] at m1
  rw [← q0] at m0
  clear e1 e0
  have b1 : P1 < 340282366920938463463374607431768211456 := by omega
  have s1 := Shl_hl P1 64
  rw [Nat.mod_eq_of_lt b1, show (2 : Nat) ^ (min 64 128) = 18446744073709551616 from rfl, decide_eq_false (show ¬ (340282366920938463463374607431768211456 ≤ P1 * 18446744073709551616) by omega)] at s1
  have a1 := Add_hl (P1 * 18446744073709551616) P0
  rw [Nat.mod_eq_of_lt (show P1 * 18446744073709551616 < 340282366920938463463374607431768211456 by omega), Nat.mod_eq_of_lt (show P0 < 340282366920938463463374607431768211456 by omega), decide_eq_false (show ¬ (340282366920938463463374607431768211456 ≤ P1 * 18446744073709551616 + P0) by omega)] at a1
  have a2 := Add_hl (P1 * 18446744073709551616 + P0) r
  rw [Nat.mod_eq_of_lt (show P1 * 18446744073709551616 + P0 < 340282366920938463463374607431768211456 by omega), Nat.mod_eq_of_lt (show r < 340282366920938463463374607431768211456 by omega), decide_eq_false (show ¬ (340282366920938463463374607431768211456 ≤ P1 * 18446744073709551616 + P0 + r) by omega), hT, (small_hi hr).1] at a2
  obtain ⟨S, hS⟩ : ∃ S, S = P1 * 18446744073709551616 + P0 := ⟨_, rfl⟩
  rw [← hS] at a1 a2
  obtain ⟨S1, hS1⟩ : ∃ S1, S1 = P1 * 18446744073709551616 := ⟨_, rfl⟩
  rw [← hS1] at a1 s1
  refine Ev.step (fun k => by simp only [vernierlaw03_PartBack.j1]; rw [if_neg (by decide), m1, Option.bind_some, m0, Option.bind_some]) ?_
  refine Ev.bind s1 ?_
  refine Ev.bindp a1 (Ev.bindp a2 ?_)
  simp only [Bool.false_eq_true, ↓reduceIte, Option.isNone_none, beq_self_eq_true, Bool.and_self]
  exact Ev.now _
theorem PartBack : vernierlaw03_PartBack.Pure := by
  intro a0 a1 a2 w0 w1 w2
  obtain ⟨ah, rfl, h0⟩ := word w0
  obtain ⟨al, rfl, h1⟩ := word w1
  obtain ⟨y, rfl, h2⟩ := word w2
  refine Ev.rounds ?_
  unfold vernierlaw03_PartBack.f
  refine Ev.bind up03 ?_
  rcases Nat.eq_zero_or_pos y with hz | hp
  · subst hz
    have hW : Ev (fun k => part_Wide.f k (ah : Int) (al : Int) 0 0) (0, 0, 0, 0, some 4) := by
      unfold part_Wide.f
      exact Ev.congr (fun k => if_pos rfl) (Ev.bind (Long_no (ah := ah) (al := al)) (Ev.now _))
    refine Ev.bind (Long_no (ah := ah) (al := al)) (Ev.bind (Div_no (ah := ah) (al := al)) (Ev.bind hW ?_))
    exact Ev.now _
  · have hL := Long_ev h0 h1 h2 hp
    have hW : Ev (fun k => part_Wide.f k (ah : Int) (al : Int) 0 (y : Int)) (hi (tw ah al / y), lo (tw ah al / y), 0, lo (tw ah al % y), none) := by
      unfold part_Wide.f
      exact Ev.congr (fun k => if_pos rfl) (Ev.bind (Long_ev h0 h1 h2 hp) (Ev.now _))
    have hA := tw_lt h0 h1
    have hr := Nat.mod_lt (tw ah al) hp
    have hq := Nat.lt_of_le_of_lt (Nat.div_le_self (tw ah al) y) hA
    have dm := Nat.div_add_mod (tw ah al) y
    have x1 : (ah : Int) = hi (tw ah al) := by unfold hi tw; exact congrArg _ (by omega)
    have x0 : (al : Int) = lo (tw ah al) := by unfold lo tw; exact congrArg _ (by omega)
    have hr2 : lo (tw ah al % y) = ((tw ah al % y : Nat) : Int) := (small_hi (Nat.lt_trans hr h2)).2
    have hj : Ev (fun k => vernierlaw03_PartBack.j1 k (y : Int) (lo (tw ah al % y)) false (ah : Int) (al : Int) (hi (tw ah al / y)) (lo (tw ah al / y))) true := by
      have e : tw ah al / y / 18446744073709551616 * y * 18446744073709551616 + tw ah al / y % 18446744073709551616 * y + tw ah al % y = tw ah al := by
        have d2 := Nat.div_add_mod (tw ah al / y) 18446744073709551616
        have : tw ah al / y / 18446744073709551616 * y * 18446744073709551616 + tw ah al / y % 18446744073709551616 * y = y * (18446744073709551616 * (tw ah al / y / 18446744073709551616) + tw ah al / y % 18446744073709551616) := by grind
        rw [this, d2, dm]
      have := back_j1 (A := tw ah al) (y := y) (q := tw ah al / y) (r := tw ah al % y) hA h2 hq (Nat.lt_trans hr h2) rfl rfl e
      rw [← x1, ← x0] at this
      exact this
    have hj0 : ∀ (p s : Int) (e : Option Int), ((e = none ∧ ah < y ∧ p = ((tw ah al / y : Nat) : Int) ∧ s = ((tw ah al % y : Nat) : Int)) ∨ (e = some 5 ∧ y ≤ ah)) → Ev (fun k => vernierlaw03_PartBack.j0 k (y : Int) (lo (tw ah al % y)) p s e false (ah : Int) (al : Int) (hi (tw ah al / y)) (lo (tw ah al / y))) true := by
      intro p s e hc
      have hi1 := (long_parts h0 h1 hp h2).1
      rcases hc with ⟨rfl, c1, rfl, rfl⟩ | ⟨rfl, c1⟩
      · have z : hi (tw ah al / y) = 0 := by rw [hi1, Nat.div_eq_of_lt c1]; rfl
        have z2 : lo (tw ah al / y) = ((tw ah al / y : Nat) : Int) := by
          have hb : tw ah al / y < 18446744073709551616 := (Nat.div_lt_iff_lt_mul hp).mpr (by rw [Nat.mul_comm]; exact tw_bound c1 h1)
          exact (small_hi hb).2
        refine Ev.step (f := fun k => vernierlaw03_PartBack.j1 k (y : Int) (lo (tw ah al % y)) false (ah : Int) (al : Int) (hi (tw ah al / y)) (lo (tw ah al / y))) (fun k => ?_) hj
        simp only [vernierlaw03_PartBack.j0]
        rw [if_neg (by decide), z, z2, hr2]
        simp only [Option.isNone_none, ↓reduceIte, beq_self_eq_true, Bool.not_true, Bool.or_self, Bool.false_eq_true]
      · have z : (hi (tw ah al / y) == 0) = false := by
          rw [hi1, beq_eq_false_iff_ne]
          have : 0 < ah / y := Nat.div_pos c1 hp
          omega
        refine Ev.step (f := fun k => vernierlaw03_PartBack.j1 k (y : Int) (lo (tw ah al % y)) false (ah : Int) (al : Int) (hi (tw ah al / y)) (lo (tw ah al / y))) (fun k => ?_) hj
        simp only [vernierlaw03_PartBack.j0]
        rw [if_neg (by decide), z]
        simp only [Option.isNone_some, ↓reduceIte, Option.getD_some, Bool.false_eq_true]
    have hlt : decide (lo (tw ah al % y) ≥ (y : Int)) = false := by rw [hr2]; exact decide_eq_false (by omega)
    obtain ⟨p, s, e, hD, hc⟩ : ∃ (p s : Int) (e : Option Int), Ev (fun k => part_Div.f k (ah : Int) (al : Int) (y : Int)) (p, s, e) ∧ ((e = none ∧ ah < y ∧ p = ((tw ah al / y : Nat) : Int) ∧ s = ((tw ah al % y : Nat) : Int)) ∨ (e = some 5 ∧ y ≤ ah)) := by
      rcases Nat.lt_or_ge ah y with c | c
      · exact ⟨_, _, _, Div_ev h1 h2 c, Or.inl ⟨rfl, c, rfl, rfl⟩⟩
      · exact ⟨_, _, _, Div_big hp c, Or.inr ⟨rfl, c⟩⟩
    have hf := hj0 p s e hc
    refine Ev.bind hL (Ev.bind hD (Ev.bind hW ?_))
    refine Ev.congr (fun k => if_neg (by omega)) ?_
    simp only [↓reduceIte, Option.isNone_none, beq_self_eq_true, Bool.not_true, Bool.or_self, Bool.false_eq_true, hlt]
    exact hf
end Go.Proofs.Ytcnpnnodgfpheaa.Pure
