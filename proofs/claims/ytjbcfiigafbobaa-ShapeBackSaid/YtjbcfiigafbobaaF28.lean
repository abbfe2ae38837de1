/- Functions of the given program as plain Lean functions, and for each a proof that the program's call comes to just these answers; no further conditions. (Written by a program of this repo out of the translation.) -/
import Derived.Test.YtjbcfiigafbobaaF0
import Derived.Test.YtjbcfiigafbobaaF19
import Derived.Test.YtjbcfiigafbobaaF20
namespace Go.Proofs.Ytjbcfiigafbobaa.F
open Go.RowKit Go.Proofs.YtjbcfiigafbobaaW.PrintWords Go.Proofs.YtjbcfiigafbobaaW.PrintLast Go.Proofs.YtjbcfiigafbobaaW.PrintMore
attribute [local go_sem high] xor_u64 xor_u32 eqErr29 neErr29 eqErrL29 neErrL29
attribute [local go_sem] max2_int min2_int max_two min_two max_three min_three max_four min_four   -- for this text's walks alone
set_option linter.unusedVariables false
set_option linter.unusedSimpArgs false

/-! ### vernierlaw05_ShapeBack: function 16 -/
def vernierlaw05_ShapeBack.j0 : Nat → Int → Int → Int → Int → Bool → Option (Bool)
  | 0, _, _, _, _, _ => none
  | k + 1, x0, x2, x20, x22, x140 => if x140 = true then (some false) else ((shape_Pattern.f x0 x2).bind fun bt559 => (if bt559.2.isNone = true then ((shape_Rank.f x0 bt559.1).bind fun bt562 => (if bt562.2.isNone = true then (if bt562.1 = x2 then (if x2 ≥ x20 then (some (decide (x2 ≤ x22))) else (some false)) else (some false)) else (some false))) else (if (bt559.2.getD 0) = 1 then (if bt559.1 = 0 then (if x2 < x20 then (some true) else (some (decide (x2 > x22)))) else (some false)) else (some false))))
def vernierlaw05_ShapeBack.f (k : Nat) (a0 : Int) (a1 : Int) (a2 : Int) : Option (Bool) := (vernierlaw05_up.f).bind fun t532 => ((shape_Of.f a0).bind fun bt533 => (if bt533.2.2.2.2.2.isNone = true then ((shape_Fold.f a0 a1).bind fun bt541 => ((shape_Fold.f a0 bt541.1).bind fun bt543 => ((shape_Rank.f a0 a1).bind fun bt545 => ((shape_Pattern.f a0 bt545.1).bind fun bt547 => ((shape_Rank.f a0 bt533.2.2.2.1).bind fun bt549 => ((shape_Rank.f a0 bt533.2.1).bind fun bt551 => (if t532 = true then (if bt541.2.isNone = true then (if bt543.2.isNone = true then (if bt545.2.isNone = true then (if bt547.2.isNone = true then (if bt549.2.isNone = true then (if bt551.2.isNone = true then (if bt541.1 = bt543.1 then (if bt547.1 = bt541.1 then (if bt545.1 < bt549.1 then (vernierlaw05_ShapeBack.j0 k a0 a2 bt549.1 bt551.1 true) else (vernierlaw05_ShapeBack.j0 k a0 a2 bt549.1 bt551.1 (decide (bt545.1 > bt551.1)))) else (vernierlaw05_ShapeBack.j0 k a0 a2 bt549.1 bt551.1 true)) else (vernierlaw05_ShapeBack.j0 k a0 a2 bt549.1 bt551.1 true)) else (vernierlaw05_ShapeBack.j0 k a0 a2 bt549.1 bt551.1 true)) else (vernierlaw05_ShapeBack.j0 k a0 a2 bt549.1 bt551.1 true)) else (vernierlaw05_ShapeBack.j0 k a0 a2 bt549.1 bt551.1 true)) else (vernierlaw05_ShapeBack.j0 k a0 a2 bt549.1 bt551.1 true)) else (vernierlaw05_ShapeBack.j0 k a0 a2 bt549.1 bt551.1 true)) else (vernierlaw05_ShapeBack.j0 k a0 a2 bt549.1 bt551.1 true)) else (vernierlaw05_ShapeBack.j0 k a0 a2 bt549.1 bt551.1 true)))))))) else ((shape_Rank.f a0 a1).bind fun bt565 => (if t532 = true then (if (bt533.2.2.2.2.2.getD 0) = 2 then (if bt565.2.isNone = true then (some false) else (if (bt565.2.getD 0) = 2 then (some (bt565.1 == 0)) else (some false))) else (some false)) else (some false)))))
theorem vernierlaw05_ShapeBack.mono_l : ∀ k, (∀ y0 y1 y2 y3 y4, LeO (vernierlaw05_ShapeBack.j0 k y0 y1 y2 y3 y4) (vernierlaw05_ShapeBack.j0 (k + 1) y0 y1 y2 y3 y4))
  | 0 => fun _ _ _ _ _ r h => by simp [vernierlaw05_ShapeBack.j0] at h
  | k + 1 => by
    have ih0 := vernierlaw05_ShapeBack.mono_l k
    · intro y0 y1 y2 y3 y4
      unfold vernierlaw05_ShapeBack.j0
      repeat' first
      | (with_reducible exact ih0 _ _ _ _ _)
      | (with_reducible exact LeO.refl _)
      | (with_reducible exact LeO.none _)
      | (with_reducible refine LeO.ite ?_ ?_)
      | (with_reducible refine LeO.bind ?_ (fun _ => ?_))
      | exact ih0 _ _ _ _ _
      | exact LeO.none _
      | refine LeO.ite ?_ ?_
      | refine LeO.bind ?_ (fun _ => ?_)
theorem vernierlaw05_ShapeBack.mono : ∀ a0 a1 a2 k, LeO (vernierlaw05_ShapeBack.f k a0 a1 a2) (vernierlaw05_ShapeBack.f (k + 1) a0 a1 a2) := by
  intro a0 a1 a2 k
  have ih0 := vernierlaw05_ShapeBack.mono_l k
  unfold vernierlaw05_ShapeBack.f
  repeat' first
      | (with_reducible exact ih0 _ _ _ _ _)
      | (with_reducible exact LeO.refl _)
      | (with_reducible exact LeO.none _)
      | (with_reducible refine LeO.ite ?_ ?_)
      | (with_reducible refine LeO.bind ?_ (fun _ => ?_))
      | exact ih0 _ _ _ _ _
      | exact LeO.none _
      | refine LeO.ite ?_ ?_
      | refine LeO.bind ?_ (fun _ => ?_)
set_option maxHeartbeats 8000000 in
set_option maxRecDepth 100000 in
theorem vernierlaw05_ShapeBack.calls (k : Nat) (a0 : Int) (a1 : Int) (a2 : Int) (r : Bool) (w : World) (h : vernierlaw05_ShapeBack.f k a0 a1 a2 = some r) :
    Calls Try.prog 16 #[.int .i64 a0, .int .u64 a1, .int .i64 a2] w fun e w' => e = .returned (.bool r) ∧ Below w.heap.size w w' := by
  have hu58 := Try.underlying58
  have hu29 := Try.underlying29
  have hu77 := Try.underlying77
  have HB := Aside0.mk (Below.refl w.heap.size w)
  have H : ((vernierlaw05_up.f).bind fun t532 => ((shape_Of.f a0).bind fun bt533 => (if bt533.2.2.2.2.2.isNone = true then ((shape_Fold.f a0 a1).bind fun bt541 => ((shape_Fold.f a0 bt541.1).bind fun bt543 => ((shape_Rank.f a0 a1).bind fun bt545 => ((shape_Pattern.f a0 bt545.1).bind fun bt547 => ((shape_Rank.f a0 bt533.2.2.2.1).bind fun bt549 => ((shape_Rank.f a0 bt533.2.1).bind fun bt551 => (if t532 = true then (if bt541.2.isNone = true then (if bt543.2.isNone = true then (if bt545.2.isNone = true then (if bt547.2.isNone = true then (if bt549.2.isNone = true then (if bt551.2.isNone = true then (if bt541.1 = bt543.1 then (if bt547.1 = bt541.1 then (if bt545.1 < bt549.1 then (vernierlaw05_ShapeBack.j0 k a0 a2 bt549.1 bt551.1 true) else (vernierlaw05_ShapeBack.j0 k a0 a2 bt549.1 bt551.1 (decide (bt545.1 > bt551.1)))) else (vernierlaw05_ShapeBack.j0 k a0 a2 bt549.1 bt551.1 true)) else (vernierlaw05_ShapeBack.j0 k a0 a2 bt549.1 bt551.1 true)) else (vernierlaw05_ShapeBack.j0 k a0 a2 bt549.1 bt551.1 true)) else (vernierlaw05_ShapeBack.j0 k a0 a2 bt549.1 bt551.1 true)) else (vernierlaw05_ShapeBack.j0 k a0 a2 bt549.1 bt551.1 true)) else (vernierlaw05_ShapeBack.j0 k a0 a2 bt549.1 bt551.1 true)) else (vernierlaw05_ShapeBack.j0 k a0 a2 bt549.1 bt551.1 true)) else (vernierlaw05_ShapeBack.j0 k a0 a2 bt549.1 bt551.1 true)) else (vernierlaw05_ShapeBack.j0 k a0 a2 bt549.1 bt551.1 true)))))))) else ((shape_Rank.f a0 a1).bind fun bt565 => (if t532 = true then (if (bt533.2.2.2.2.2.getD 0) = 2 then (if bt565.2.isNone = true then (some false) else (if (bt565.2.getD 0) = 2 then (some (bt565.1 == 0)) else (some false))) else (some false)) else (some false)))))) = some r := h
  clear h
  replace H := Option.bind_eq_some_iff.mp H
  obtain ⟨t532, A40, H⟩ := H
  replace H : ((shape_Of.f a0).bind fun bt533 => (if bt533.2.2.2.2.2.isNone = true then ((shape_Fold.f a0 a1).bind fun bt541 => ((shape_Fold.f a0 bt541.1).bind fun bt543 => ((shape_Rank.f a0 a1).bind fun bt545 => ((shape_Pattern.f a0 bt545.1).bind fun bt547 => ((shape_Rank.f a0 bt533.2.2.2.1).bind fun bt549 => ((shape_Rank.f a0 bt533.2.1).bind fun bt551 => (if t532 = true then (if bt541.2.isNone = true then (if bt543.2.isNone = true then (if bt545.2.isNone = true then (if bt547.2.isNone = true then (if bt549.2.isNone = true then (if bt551.2.isNone = true then (if bt541.1 = bt543.1 then (if bt547.1 = bt541.1 then (if bt545.1 < bt549.1 then (vernierlaw05_ShapeBack.j0 k a0 a2 bt549.1 bt551.1 true) else (vernierlaw05_ShapeBack.j0 k a0 a2 bt549.1 bt551.1 (decide (bt545.1 > bt551.1)))) else (vernierlaw05_ShapeBack.j0 k a0 a2 bt549.1 bt551.1 true)) else (vernierlaw05_ShapeBack.j0 k a0 a2 bt549.1 bt551.1 true)) else (vernierlaw05_ShapeBack.j0 k a0 a2 bt549.1 bt551.1 true)) else (vernierlaw05_ShapeBack.j0 k a0 a2 bt549.1 bt551.1 true)) else (vernierlaw05_ShapeBack.j0 k a0 a2 bt549.1 bt551.1 true)) else (vernierlaw05_ShapeBack.j0 k a0 a2 bt549.1 bt551.1 true)) else (vernierlaw05_ShapeBack.j0 k a0 a2 bt549.1 bt551.1 true)) else (vernierlaw05_ShapeBack.j0 k a0 a2 bt549.1 bt551.1 true)) else (vernierlaw05_ShapeBack.j0 k a0 a2 bt549.1 bt551.1 true)))))))) else ((shape_Rank.f a0 a1).bind fun bt565 => (if t532 = true then (if (bt533.2.2.2.2.2.getD 0) = 2 then (if bt565.2.isNone = true then (some false) else (if (bt565.2.getD 0) = 2 then (some (bt565.1 == 0)) else (some false))) else (some false)) else (some false))))) = some r := H
  have A4 := Aside0.mk A40
  clear A40
  replace H := Option.bind_eq_some_iff.mp H
  obtain ⟨⟨t533, t534, t535, t536, t537, t538⟩, A50, H⟩ := H
  replace H : (if t538.isNone = true then ((shape_Fold.f a0 a1).bind fun bt541 => ((shape_Fold.f a0 bt541.1).bind fun bt543 => ((shape_Rank.f a0 a1).bind fun bt545 => ((shape_Pattern.f a0 bt545.1).bind fun bt547 => ((shape_Rank.f a0 t536).bind fun bt549 => ((shape_Rank.f a0 t534).bind fun bt551 => (if t532 = true then (if bt541.2.isNone = true then (if bt543.2.isNone = true then (if bt545.2.isNone = true then (if bt547.2.isNone = true then (if bt549.2.isNone = true then (if bt551.2.isNone = true then (if bt541.1 = bt543.1 then (if bt547.1 = bt541.1 then (if bt545.1 < bt549.1 then (vernierlaw05_ShapeBack.j0 k a0 a2 bt549.1 bt551.1 true) else (vernierlaw05_ShapeBack.j0 k a0 a2 bt549.1 bt551.1 (decide (bt545.1 > bt551.1)))) else (vernierlaw05_ShapeBack.j0 k a0 a2 bt549.1 bt551.1 true)) else (vernierlaw05_ShapeBack.j0 k a0 a2 bt549.1 bt551.1 true)) else (vernierlaw05_ShapeBack.j0 k a0 a2 bt549.1 bt551.1 true)) else (vernierlaw05_ShapeBack.j0 k a0 a2 bt549.1 bt551.1 true)) else (vernierlaw05_ShapeBack.j0 k a0 a2 bt549.1 bt551.1 true)) else (vernierlaw05_ShapeBack.j0 k a0 a2 bt549.1 bt551.1 true)) else (vernierlaw05_ShapeBack.j0 k a0 a2 bt549.1 bt551.1 true)) else (vernierlaw05_ShapeBack.j0 k a0 a2 bt549.1 bt551.1 true)) else (vernierlaw05_ShapeBack.j0 k a0 a2 bt549.1 bt551.1 true)))))))) else ((shape_Rank.f a0 a1).bind fun bt565 => (if t532 = true then (if (t538.getD 0) = 2 then (if bt565.2.isNone = true then (some false) else (if (bt565.2.getD 0) = 2 then (some (bt565.1 == 0)) else (some false))) else (some false)) else (some false)))) = some r := H
  have A5 := Aside0.mk A50
  clear A50
  rcases t538 with _ | q540
  · have H1 : ((shape_Fold.f a0 a1).bind fun bt541 => ((shape_Fold.f a0 bt541.1).bind fun bt543 => ((shape_Rank.f a0 a1).bind fun bt545 => ((shape_Pattern.f a0 bt545.1).bind fun bt547 => ((shape_Rank.f a0 t536).bind fun bt549 => ((shape_Rank.f a0 t534).bind fun bt551 => (if t532 = true then (if bt541.2.isNone = true then (if bt543.2.isNone = true then (if bt545.2.isNone = true then (if bt547.2.isNone = true then (if bt549.2.isNone = true then (if bt551.2.isNone = true then (if bt541.1 = bt543.1 then (if bt547.1 = bt541.1 then (if bt545.1 < bt549.1 then (vernierlaw05_ShapeBack.j0 k a0 a2 bt549.1 bt551.1 true) else (vernierlaw05_ShapeBack.j0 k a0 a2 bt549.1 bt551.1 (decide (bt545.1 > bt551.1)))) else (vernierlaw05_ShapeBack.j0 k a0 a2 bt549.1 bt551.1 true)) else (vernierlaw05_ShapeBack.j0 k a0 a2 bt549.1 bt551.1 true)) else (vernierlaw05_ShapeBack.j0 k a0 a2 bt549.1 bt551.1 true)) else (vernierlaw05_ShapeBack.j0 k a0 a2 bt549.1 bt551.1 true)) else (vernierlaw05_ShapeBack.j0 k a0 a2 bt549.1 bt551.1 true)) else (vernierlaw05_ShapeBack.j0 k a0 a2 bt549.1 bt551.1 true)) else (vernierlaw05_ShapeBack.j0 k a0 a2 bt549.1 bt551.1 true)) else (vernierlaw05_ShapeBack.j0 k a0 a2 bt549.1 bt551.1 true)) else (vernierlaw05_ShapeBack.j0 k a0 a2 bt549.1 bt551.1 true)))))))) = some r := by rw [if_pos (show (none : Option Int).isNone = true by rfl)] at H; exact H
    clear H
    have H := H1
    clear H1
    try simp only [errW_none, errW_some]
    replace H := Option.bind_eq_some_iff.mp H
    obtain ⟨⟨t541, t542⟩, A60, H⟩ := H
    replace H : ((shape_Fold.f a0 t541).bind fun bt543 => ((shape_Rank.f a0 a1).bind fun bt545 => ((shape_Pattern.f a0 bt545.1).bind fun bt547 => ((shape_Rank.f a0 t536).bind fun bt549 => ((shape_Rank.f a0 t534).bind fun bt551 => (if t532 = true then (if t542.isNone = true then (if bt543.2.isNone = true then (if bt545.2.isNone = true then (if bt547.2.isNone = true then (if bt549.2.isNone = true then (if bt551.2.isNone = true then (if t541 = bt543.1 then (if bt547.1 = t541 then (if bt545.1 < bt549.1 then (vernierlaw05_ShapeBack.j0 k a0 a2 bt549.1 bt551.1 true) else (vernierlaw05_ShapeBack.j0 k a0 a2 bt549.1 bt551.1 (decide (bt545.1 > bt551.1)))) else (vernierlaw05_ShapeBack.j0 k a0 a2 bt549.1 bt551.1 true)) else (vernierlaw05_ShapeBack.j0 k a0 a2 bt549.1 bt551.1 true)) else (vernierlaw05_ShapeBack.j0 k a0 a2 bt549.1 bt551.1 true)) else (vernierlaw05_ShapeBack.j0 k a0 a2 bt549.1 bt551.1 true)) else (vernierlaw05_ShapeBack.j0 k a0 a2 bt549.1 bt551.1 true)) else (vernierlaw05_ShapeBack.j0 k a0 a2 bt549.1 bt551.1 true)) else (vernierlaw05_ShapeBack.j0 k a0 a2 bt549.1 bt551.1 true)) else (vernierlaw05_ShapeBack.j0 k a0 a2 bt549.1 bt551.1 true)) else (vernierlaw05_ShapeBack.j0 k a0 a2 bt549.1 bt551.1 true))))))) = some r := H
    have A6 := Aside0.mk A60
    clear A60
    replace H := Option.bind_eq_some_iff.mp H
    obtain ⟨⟨t543, t544⟩, A70, H⟩ := H
    replace H : ((shape_Rank.f a0 a1).bind fun bt545 => ((shape_Pattern.f a0 bt545.1).bind fun bt547 => ((shape_Rank.f a0 t536).bind fun bt549 => ((shape_Rank.f a0 t534).bind fun bt551 => (if t532 = true then (if t542.isNone = true then (if t544.isNone = true then (if bt545.2.isNone = true then (if bt547.2.isNone = true then (if bt549.2.isNone = true then (if bt551.2.isNone = true then (if t541 = t543 then (if bt547.1 = t541 then (if bt545.1 < bt549.1 then (vernierlaw05_ShapeBack.j0 k a0 a2 bt549.1 bt551.1 true) else (vernierlaw05_ShapeBack.j0 k a0 a2 bt549.1 bt551.1 (decide (bt545.1 > bt551.1)))) else (vernierlaw05_ShapeBack.j0 k a0 a2 bt549.1 bt551.1 true)) else (vernierlaw05_ShapeBack.j0 k a0 a2 bt549.1 bt551.1 true)) else (vernierlaw05_ShapeBack.j0 k a0 a2 bt549.1 bt551.1 true)) else (vernierlaw05_ShapeBack.j0 k a0 a2 bt549.1 bt551.1 true)) else (vernierlaw05_ShapeBack.j0 k a0 a2 bt549.1 bt551.1 true)) else (vernierlaw05_ShapeBack.j0 k a0 a2 bt549.1 bt551.1 true)) else (vernierlaw05_ShapeBack.j0 k a0 a2 bt549.1 bt551.1 true)) else (vernierlaw05_ShapeBack.j0 k a0 a2 bt549.1 bt551.1 true)) else (vernierlaw05_ShapeBack.j0 k a0 a2 bt549.1 bt551.1 true)))))) = some r := H
    have A7 := Aside0.mk A70
    clear A70
    replace H := Option.bind_eq_some_iff.mp H
    obtain ⟨⟨t545, t546⟩, A80, H⟩ := H
    replace H : ((shape_Pattern.f a0 t545).bind fun bt547 => ((shape_Rank.f a0 t536).bind fun bt549 => ((shape_Rank.f a0 t534).bind fun bt551 => (if t532 = true then (if t542.isNone = true then (if t544.isNone = true then (if t546.isNone = true then (if bt547.2.isNone = true then (if bt549.2.isNone = true then (if bt551.2.isNone = true then (if t541 = t543 then (if bt547.1 = t541 then (if t545 < bt549.1 then (vernierlaw05_ShapeBack.j0 k a0 a2 bt549.1 bt551.1 true) else (vernierlaw05_ShapeBack.j0 k a0 a2 bt549.1 bt551.1 (decide (t545 > bt551.1)))) else (vernierlaw05_ShapeBack.j0 k a0 a2 bt549.1 bt551.1 true)) else (vernierlaw05_ShapeBack.j0 k a0 a2 bt549.1 bt551.1 true)) else (vernierlaw05_ShapeBack.j0 k a0 a2 bt549.1 bt551.1 true)) else (vernierlaw05_ShapeBack.j0 k a0 a2 bt549.1 bt551.1 true)) else (vernierlaw05_ShapeBack.j0 k a0 a2 bt549.1 bt551.1 true)) else (vernierlaw05_ShapeBack.j0 k a0 a2 bt549.1 bt551.1 true)) else (vernierlaw05_ShapeBack.j0 k a0 a2 bt549.1 bt551.1 true)) else (vernierlaw05_ShapeBack.j0 k a0 a2 bt549.1 bt551.1 true)) else (vernierlaw05_ShapeBack.j0 k a0 a2 bt549.1 bt551.1 true))))) = some r := H
    have A8 := Aside0.mk A80
    clear A80
    replace H := Option.bind_eq_some_iff.mp H
    obtain ⟨⟨t547, t548⟩, A90, H⟩ := H
    replace H : ((shape_Rank.f a0 t536).bind fun bt549 => ((shape_Rank.f a0 t534).bind fun bt551 => (if t532 = true then (if t542.isNone = true then (if t544.isNone = true then (if t546.isNone = true then (if t548.isNone = true then (if bt549.2.isNone = true then (if bt551.2.isNone = true then (if t541 = t543 then (if t547 = t541 then (if t545 < bt549.1 then (vernierlaw05_ShapeBack.j0 k a0 a2 bt549.1 bt551.1 true) else (vernierlaw05_ShapeBack.j0 k a0 a2 bt549.1 bt551.1 (decide (t545 > bt551.1)))) else (vernierlaw05_ShapeBack.j0 k a0 a2 bt549.1 bt551.1 true)) else (vernierlaw05_ShapeBack.j0 k a0 a2 bt549.1 bt551.1 true)) else (vernierlaw05_ShapeBack.j0 k a0 a2 bt549.1 bt551.1 true)) else (vernierlaw05_ShapeBack.j0 k a0 a2 bt549.1 bt551.1 true)) else (vernierlaw05_ShapeBack.j0 k a0 a2 bt549.1 bt551.1 true)) else (vernierlaw05_ShapeBack.j0 k a0 a2 bt549.1 bt551.1 true)) else (vernierlaw05_ShapeBack.j0 k a0 a2 bt549.1 bt551.1 true)) else (vernierlaw05_ShapeBack.j0 k a0 a2 bt549.1 bt551.1 true)) else (vernierlaw05_ShapeBack.j0 k a0 a2 bt549.1 bt551.1 true)))) = some r := H
    have A9 := Aside0.mk A90
    clear A90
    replace H := Option.bind_eq_some_iff.mp H
    obtain ⟨⟨t549, t550⟩, A100, H⟩ := H
    replace H : ((shape_Rank.f a0 t534).bind fun bt551 => (if t532 = true then (if t542.isNone = true then (if t544.isNone = true then (if t546.isNone = true then (if t548.isNone = true then (if t550.isNone = true then (if bt551.2.isNone = true then (if t541 = t543 then (if t547 = t541 then (if t545 < t549 then (vernierlaw05_ShapeBack.j0 k a0 a2 t549 bt551.1 true) else (vernierlaw05_ShapeBack.j0 k a0 a2 t549 bt551.1 (decide (t545 > bt551.1)))) else (vernierlaw05_ShapeBack.j0 k a0 a2 t549 bt551.1 true)) else (vernierlaw05_ShapeBack.j0 k a0 a2 t549 bt551.1 true)) else (vernierlaw05_ShapeBack.j0 k a0 a2 t549 bt551.1 true)) else (vernierlaw05_ShapeBack.j0 k a0 a2 t549 bt551.1 true)) else (vernierlaw05_ShapeBack.j0 k a0 a2 t549 bt551.1 true)) else (vernierlaw05_ShapeBack.j0 k a0 a2 t549 bt551.1 true)) else (vernierlaw05_ShapeBack.j0 k a0 a2 t549 bt551.1 true)) else (vernierlaw05_ShapeBack.j0 k a0 a2 t549 bt551.1 true)) else (vernierlaw05_ShapeBack.j0 k a0 a2 t549 bt551.1 true))) = some r := H
    have A10 := Aside0.mk A100
    clear A100
    replace H := Option.bind_eq_some_iff.mp H
    obtain ⟨⟨t551, t552⟩, A110, H⟩ := H
    replace H : (if t532 = true then (if t542.isNone = true then (if t544.isNone = true then (if t546.isNone = true then (if t548.isNone = true then (if t550.isNone = true then (if t552.isNone = true then (if t541 = t543 then (if t547 = t541 then (if t545 < t549 then (vernierlaw05_ShapeBack.j0 k a0 a2 t549 t551 true) else (vernierlaw05_ShapeBack.j0 k a0 a2 t549 t551 (decide (t545 > t551)))) else (vernierlaw05_ShapeBack.j0 k a0 a2 t549 t551 true)) else (vernierlaw05_ShapeBack.j0 k a0 a2 t549 t551 true)) else (vernierlaw05_ShapeBack.j0 k a0 a2 t549 t551 true)) else (vernierlaw05_ShapeBack.j0 k a0 a2 t549 t551 true)) else (vernierlaw05_ShapeBack.j0 k a0 a2 t549 t551 true)) else (vernierlaw05_ShapeBack.j0 k a0 a2 t549 t551 true)) else (vernierlaw05_ShapeBack.j0 k a0 a2 t549 t551 true)) else (vernierlaw05_ShapeBack.j0 k a0 a2 t549 t551 true)) else (vernierlaw05_ShapeBack.j0 k a0 a2 t549 t551 true)) = some r := H
    have A11 := Aside0.mk A110
    clear A110
    have HC12 := Aside0.mk H
    clear H
    go_enter Try.func16, Try.ntmps16
    go_upto_region 12 with (first | ((with_reducible refine gC (f := 39) rfl ?_); refine goesY_ (some 28) Try.func39 #[] ?_; (with_reducible refine (vernierlaw05_up.calls  t532 _ A4.out).mono ?_); rintro e w13 ⟨rfl, hb⟩; refine ⟨_, rfl, ?_⟩; have n0_ := Aside0.mk (bS3 HB.out hb); clear HB; have HB := n0_; clear n0_; (try clear hb); (try clear hb2); (try clear hk); (try clear hi)) | ((with_reducible refine gC (f := 44) rfl ?_); refine goesY_ (some 31) Try.func44 #[.int .i64 a0] ?_; (with_reducible refine (shape_Of.calls a0 t533 t534 t535 t536 t537 none _ A5.out).mono ?_); rintro e w14 ⟨rfl, hb⟩; refine ⟨_, rfl, ?_⟩; have n0_ := Aside0.mk (bS3 HB.out hb); clear HB; have HB := n0_; clear n0_; (try clear hb); (try clear hb2); (try clear hk); (try clear hi); (try simp only [errW_none, errW_some])) | ((with_reducible refine gD (N := 8) rfl ?_); refine bE3 8 #[.int .i64 0, .int .u64 0, .int .u64 0, .int .u64 0, .int .i64 0] 58 ?hr ?_; (case hr => first | (go_simp; done) | (go_simp; rfl)); intro gb539 hg w15 hbox hb; have n0_ := Aside0.mk (bS3 HB.out hb); have n1_ := Aside0.mk (hbox); have n2_ := Aside0.mk ((bZ3 hg HB.out)); have n3_ := Aside0.mk ((bZ3 hg HB.out)); clear HB; have HB := n0_; have BK539 := n1_; have GW539 := n2_; have GE539 := n3_; clear n0_ n1_ n2_ n3_; clear hb hbox hg; have hcz16_0 : w15.cell? ⟨gb539, 0, none⟩ = some (.int .i64 0) := (blk_cell BK539.out 0).trans rfl; have hcz16_1 : w15.cell? ⟨gb539, 1, none⟩ = some (.int .u64 0) := (blk_cell BK539.out 1).trans rfl; have hcz16_2 : w15.cell? ⟨gb539, 2, none⟩ = some (.int .u64 0) := (blk_cell BK539.out 2).trans rfl; have hcz16_3 : w15.cell? ⟨gb539, 3, none⟩ = some (.int .u64 0) := (blk_cell BK539.out 3).trans rfl; have hcz16_4 : w15.cell? ⟨gb539, 4, none⟩ = some (.int .i64 0) := (blk_cell BK539.out 4).trans rfl; have hfz16_0 := blk_frozen BK539.out 0; have hfz16_1 := blk_frozen BK539.out 1; have hfz16_2 := blk_frozen BK539.out 2; have hfz16_3 := blk_frozen BK539.out 3; have hfz16_4 := blk_frozen BK539.out 4) | ((with_reducible refine gC (f := 53) rfl ?_); refine goesY_ (some 60) Try.func53 #[.int .i64 a0, .int .u64 a1] ?_; (with_reducible refine (shape_Fold.calls a0 a1 t541 t542 _ A6.out).mono ?_); rintro e w' ⟨rfl, ⟨nd, rfl⟩⟩; refine ⟨_, rfl, ?_⟩; (try simp only [errW_none, errW_some])) | ((with_reducible refine gC (f := 53) rfl ?_); refine goesY_ (some 66) Try.func53 #[.int .i64 a0, .int .u64 t541] ?_; (with_reducible refine (shape_Fold.calls a0 t541 t543 t544 _ A7.out).mono ?_); rintro e w' ⟨rfl, ⟨nd, rfl⟩⟩; refine ⟨_, rfl, ?_⟩; (try simp only [errW_none, errW_some])) | ((with_reducible refine gC (f := 51) rfl ?_); refine goesY_ (some 72) Try.func51 #[.int .i64 a0, .int .u64 a1] ?_; (with_reducible refine (shape_Rank.calls a0 a1 t545 t546 _ A8.out).mono ?_); rintro e w' ⟨rfl, ⟨nd, rfl⟩⟩; refine ⟨_, rfl, ?_⟩; (try simp only [errW_none, errW_some])) | ((with_reducible refine gC (f := 40) rfl ?_); refine goesY_ (some 78) Try.func40 #[.int .i64 a0, .int .i64 t545] ?_; (with_reducible refine (shape_Pattern.calls a0 t545 t547 t548 _ A9.out).mono ?_); rintro e w' ⟨rfl, ⟨nd, rfl⟩⟩; refine ⟨_, rfl, ?_⟩; (try simp only [errW_none, errW_some])) | ((with_reducible refine gC (f := 51) rfl ?_); refine goesY_ (some 85) Try.func51 #[.int .i64 a0, .int .u64 t536] ?_; (with_reducible refine (shape_Rank.calls a0 t536 t549 t550 _ A10.out).mono ?_); rintro e w' ⟨rfl, ⟨nd, rfl⟩⟩; refine ⟨_, rfl, ?_⟩; (try simp only [errW_none, errW_some])) | ((with_reducible refine gC (f := 51) rfl ?_); refine goesY_ (some 92) Try.func51 #[.int .i64 a0, .int .u64 t534] ?_; (with_reducible refine (shape_Rank.calls a0 t534 t551 t552 _ A11.out).mono ?_); rintro e w' ⟨rfl, ⟨nd, rfl⟩⟩; refine ⟨_, rfl, ?_⟩; (try simp only [errW_none, errW_some])))
    (try simp only [Act.put, List.setIfInBounds_toArray, List.set_cons_zero, List.set_cons_succ])
    go_cut [140] (fun v140 wc => ∃ (kq : Nat) (x140_11 : Bool), v140 = .bool x140_11 ∧ Aside0 (vernierlaw05_ShapeBack.j0 kq a0 a2 t549 t551 x140_11 = some r) ∧ Aside0 (kq ≤ k) ∧ Aside0 (wc.heap[gb539]? = some (.cells #[.int .i64 t533, .int .u64 t534, .int .u64 t535, .int .u64 t536, .int .i64 t537] 58 (0, 0))) ∧ Aside0 (Below w.heap.size w wc))
    case first =>
      have H := HC12.out
      clear HC12
      by_cases c17 : t532 = true
      · subst c17
        have H1 : (if t542.isNone = true then (if t544.isNone = true then (if t546.isNone = true then (if t548.isNone = true then (if t550.isNone = true then (if t552.isNone = true then (if t541 = t543 then (if t547 = t541 then (if t545 < t549 then (vernierlaw05_ShapeBack.j0 k a0 a2 t549 t551 true) else (vernierlaw05_ShapeBack.j0 k a0 a2 t549 t551 (decide (t545 > t551)))) else (vernierlaw05_ShapeBack.j0 k a0 a2 t549 t551 true)) else (vernierlaw05_ShapeBack.j0 k a0 a2 t549 t551 true)) else (vernierlaw05_ShapeBack.j0 k a0 a2 t549 t551 true)) else (vernierlaw05_ShapeBack.j0 k a0 a2 t549 t551 true)) else (vernierlaw05_ShapeBack.j0 k a0 a2 t549 t551 true)) else (vernierlaw05_ShapeBack.j0 k a0 a2 t549 t551 true)) else (vernierlaw05_ShapeBack.j0 k a0 a2 t549 t551 true)) else (vernierlaw05_ShapeBack.j0 k a0 a2 t549 t551 true)) = some r := by rw [if_pos rfl] at H; exact H
        clear H
        have H := H1
        clear H1
        rcases t542 with _ | q553
        · have H1 : (if t544.isNone = true then (if t546.isNone = true then (if t548.isNone = true then (if t550.isNone = true then (if t552.isNone = true then (if t541 = t543 then (if t547 = t541 then (if t545 < t549 then (vernierlaw05_ShapeBack.j0 k a0 a2 t549 t551 true) else (vernierlaw05_ShapeBack.j0 k a0 a2 t549 t551 (decide (t545 > t551)))) else (vernierlaw05_ShapeBack.j0 k a0 a2 t549 t551 true)) else (vernierlaw05_ShapeBack.j0 k a0 a2 t549 t551 true)) else (vernierlaw05_ShapeBack.j0 k a0 a2 t549 t551 true)) else (vernierlaw05_ShapeBack.j0 k a0 a2 t549 t551 true)) else (vernierlaw05_ShapeBack.j0 k a0 a2 t549 t551 true)) else (vernierlaw05_ShapeBack.j0 k a0 a2 t549 t551 true)) else (vernierlaw05_ShapeBack.j0 k a0 a2 t549 t551 true)) = some r := by rw [if_pos (show (none : Option Int).isNone = true by rfl)] at H; exact H
          clear H
          have H := H1
          clear H1
          try simp only [errW_none, errW_some]
          rcases t544 with _ | q554
          · have H1 : (if t546.isNone = true then (if t548.isNone = true then (if t550.isNone = true then (if t552.isNone = true then (if t541 = t543 then (if t547 = t541 then (if t545 < t549 then (vernierlaw05_ShapeBack.j0 k a0 a2 t549 t551 true) else (vernierlaw05_ShapeBack.j0 k a0 a2 t549 t551 (decide (t545 > t551)))) else (vernierlaw05_ShapeBack.j0 k a0 a2 t549 t551 true)) else (vernierlaw05_ShapeBack.j0 k a0 a2 t549 t551 true)) else (vernierlaw05_ShapeBack.j0 k a0 a2 t549 t551 true)) else (vernierlaw05_ShapeBack.j0 k a0 a2 t549 t551 true)) else (vernierlaw05_ShapeBack.j0 k a0 a2 t549 t551 true)) else (vernierlaw05_ShapeBack.j0 k a0 a2 t549 t551 true)) = some r := by rw [if_pos (show (none : Option Int).isNone = true by rfl)] at H; exact H
            clear H
            have H := H1
            clear H1
            try simp only [errW_none, errW_some]
            rcases t546 with _ | q555
            · have H1 : (if t548.isNone = true then (if t550.isNone = true then (if t552.isNone = true then (if t541 = t543 then (if t547 = t541 then (if t545 < t549 then (vernierlaw05_ShapeBack.j0 k a0 a2 t549 t551 true) else (vernierlaw05_ShapeBack.j0 k a0 a2 t549 t551 (decide (t545 > t551)))) else (vernierlaw05_ShapeBack.j0 k a0 a2 t549 t551 true)) else (vernierlaw05_ShapeBack.j0 k a0 a2 t549 t551 true)) else (vernierlaw05_ShapeBack.j0 k a0 a2 t549 t551 true)) else (vernierlaw05_ShapeBack.j0 k a0 a2 t549 t551 true)) else (vernierlaw05_ShapeBack.j0 k a0 a2 t549 t551 true)) = some r := by rw [if_pos (show (none : Option Int).isNone = true by rfl)] at H; exact H
              clear H
              have H := H1
              clear H1
              try simp only [errW_none, errW_some]
              rcases t548 with _ | q556
              · have H1 : (if t550.isNone = true then (if t552.isNone = true then (if t541 = t543 then (if t547 = t541 then (if t545 < t549 then (vernierlaw05_ShapeBack.j0 k a0 a2 t549 t551 true) else (vernierlaw05_ShapeBack.j0 k a0 a2 t549 t551 (decide (t545 > t551)))) else (vernierlaw05_ShapeBack.j0 k a0 a2 t549 t551 true)) else (vernierlaw05_ShapeBack.j0 k a0 a2 t549 t551 true)) else (vernierlaw05_ShapeBack.j0 k a0 a2 t549 t551 true)) else (vernierlaw05_ShapeBack.j0 k a0 a2 t549 t551 true)) = some r := by rw [if_pos (show (none : Option Int).isNone = true by rfl)] at H; exact H
                clear H
                have H := H1
                clear H1
                try simp only [errW_none, errW_some]
                rcases t550 with _ | q557
                · have H1 : (if t552.isNone = true then (if t541 = t543 then (if t547 = t541 then (if t545 < t549 then (vernierlaw05_ShapeBack.j0 k a0 a2 t549 t551 true) else (vernierlaw05_ShapeBack.j0 k a0 a2 t549 t551 (decide (t545 > t551)))) else (vernierlaw05_ShapeBack.j0 k a0 a2 t549 t551 true)) else (vernierlaw05_ShapeBack.j0 k a0 a2 t549 t551 true)) else (vernierlaw05_ShapeBack.j0 k a0 a2 t549 t551 true)) = some r := by rw [if_pos (show (none : Option Int).isNone = true by rfl)] at H; exact H
                  clear H
                  have H := H1
                  clear H1
                  try simp only [errW_none, errW_some]
                  rcases t552 with _ | q558
                  · have H1 : (if t541 = t543 then (if t547 = t541 then (if t545 < t549 then (vernierlaw05_ShapeBack.j0 k a0 a2 t549 t551 true) else (vernierlaw05_ShapeBack.j0 k a0 a2 t549 t551 (decide (t545 > t551)))) else (vernierlaw05_ShapeBack.j0 k a0 a2 t549 t551 true)) else (vernierlaw05_ShapeBack.j0 k a0 a2 t549 t551 true)) = some r := by rw [if_pos (show (none : Option Int).isNone = true by rfl)] at H; exact H
                    clear H
                    have H := H1
                    clear H1
                    try simp only [errW_none, errW_some]
                    by_cases c18 : t541 = t543
                    · rw [if_pos c18] at H
                      have c18b0 : (t541 == t543) = true := beq_iff_eq.mpr c18
                      have c18b1 : (t541 != t543) = false := bne_eq_false_iff_eq.mpr c18
                      clear c18
                      (first | rw [c18b0] | (simp only [i64_w, i32_w]; rw [c18b0]) | skip)
                      by_cases c19 : t547 = t541
                      · rw [if_pos c19] at H
                        have c19b0 : (t547 == t541) = true := beq_iff_eq.mpr c19
                        have c19b1 : (t547 != t541) = false := bne_eq_false_iff_eq.mpr c19
                        clear c19
                        by_cases c20 : t545 < t549
                        · rw [if_pos c20] at H
                          have c20b0 : decide (t545 < t549) = true := decide_eq_true c20
                          clear c20
                          have H' := Aside0.mk H
                          clear H
                          go_wp2
                          go_meet
                          case rel => exact ⟨_, (true), (by first | rfl | (simp; done) | (simp [*]; done)), H', ⟨by first | omega | exact Nat.le_refl _⟩, ⟨by (with_reducible repeat (first | refine bN ?_ _ | refine bD ?_ | refine bA ?_ _)); refine blk_put (cs := #[.int .i64 t533, .int .u64 t534, .int .u64 t535, .int .u64 t536, .int .i64 0]) ?_ 4 _ rfl; (with_reducible repeat (first | refine bN ?_ _ | refine bD ?_ | refine bA ?_ _)); refine blk_put (cs := #[.int .i64 t533, .int .u64 t534, .int .u64 t535, .int .u64 0, .int .i64 0]) ?_ 3 _ rfl; (with_reducible repeat (first | refine bN ?_ _ | refine bD ?_ | refine bA ?_ _)); refine blk_put (cs := #[.int .i64 t533, .int .u64 t534, .int .u64 0, .int .u64 0, .int .i64 0]) ?_ 2 _ rfl; (with_reducible repeat (first | refine bN ?_ _ | refine bD ?_ | refine bA ?_ _)); refine blk_put (cs := #[.int .i64 t533, .int .u64 0, .int .u64 0, .int .u64 0, .int .i64 0]) ?_ 1 _ rfl; (with_reducible repeat (first | refine bN ?_ _ | refine bD ?_ | refine bA ?_ _)); refine blk_put (cs := #[.int .i64 0, .int .u64 0, .int .u64 0, .int .u64 0, .int .i64 0]) ?_ 0 _ rfl; (with_reducible repeat (first | refine bN ?_ _ | refine bD ?_ | refine bA ?_ _)); exact BK539.out⟩, ⟨by repeat (first | (with_reducible first | exact HB.out | apply pA | apply pN | apply p1 | refine pS ?_ GE539.out) | exact HB.out)⟩⟩
                        · rw [if_neg c20] at H
                          have c20b0 : decide (t545 < t549) = false := decide_eq_false c20
                          clear c20
                          have H' := Aside0.mk H
                          clear H
                          go_wp2
                          go_meet
                          case rel => exact ⟨_, (decide (t545 > t551)), (by first | rfl | (simp; done) | (simp [*]; done)), H', ⟨by first | omega | exact Nat.le_refl _⟩, ⟨by (with_reducible repeat (first | refine bN ?_ _ | refine bD ?_ | refine bA ?_ _)); refine blk_put (cs := #[.int .i64 t533, .int .u64 t534, .int .u64 t535, .int .u64 t536, .int .i64 0]) ?_ 4 _ rfl; (with_reducible repeat (first | refine bN ?_ _ | refine bD ?_ | refine bA ?_ _)); refine blk_put (cs := #[.int .i64 t533, .int .u64 t534, .int .u64 t535, .int .u64 0, .int .i64 0]) ?_ 3 _ rfl; (with_reducible repeat (first | refine bN ?_ _ | refine bD ?_ | refine bA ?_ _)); refine blk_put (cs := #[.int .i64 t533, .int .u64 t534, .int .u64 0, .int .u64 0, .int .i64 0]) ?_ 2 _ rfl; (with_reducible repeat (first | refine bN ?_ _ | refine bD ?_ | refine bA ?_ _)); refine blk_put (cs := #[.int .i64 t533, .int .u64 0, .int .u64 0, .int .u64 0, .int .i64 0]) ?_ 1 _ rfl; (with_reducible repeat (first | refine bN ?_ _ | refine bD ?_ | refine bA ?_ _)); refine blk_put (cs := #[.int .i64 0, .int .u64 0, .int .u64 0, .int .u64 0, .int .i64 0]) ?_ 0 _ rfl; (with_reducible repeat (first | refine bN ?_ _ | refine bD ?_ | refine bA ?_ _)); exact BK539.out⟩, ⟨by repeat (first | (with_reducible first | exact HB.out | apply pA | apply pN | apply p1 | refine pS ?_ GE539.out) | exact HB.out)⟩⟩
                      · rw [if_neg c19] at H
                        have c19b0 : (t547 == t541) = false := beq_eq_false_iff_ne.mpr c19
                        have c19b1 : (t547 != t541) = true := bne_iff_ne.mpr c19
                        have H' := Aside0.mk H
                        clear H
                        go_wp2
                        go_meet
                        case rel => exact ⟨_, (true), (by first | rfl | (simp; done) | (simp [*]; done)), H', ⟨by first | omega | exact Nat.le_refl _⟩, ⟨by (with_reducible repeat (first | refine bN ?_ _ | refine bD ?_ | refine bA ?_ _)); refine blk_put (cs := #[.int .i64 t533, .int .u64 t534, .int .u64 t535, .int .u64 t536, .int .i64 0]) ?_ 4 _ rfl; (with_reducible repeat (first | refine bN ?_ _ | refine bD ?_ | refine bA ?_ _)); refine blk_put (cs := #[.int .i64 t533, .int .u64 t534, .int .u64 t535, .int .u64 0, .int .i64 0]) ?_ 3 _ rfl; (with_reducible repeat (first | refine bN ?_ _ | refine bD ?_ | refine bA ?_ _)); refine blk_put (cs := #[.int .i64 t533, .int .u64 t534, .int .u64 0, .int .u64 0, .int .i64 0]) ?_ 2 _ rfl; (with_reducible repeat (first | refine bN ?_ _ | refine bD ?_ | refine bA ?_ _)); refine blk_put (cs := #[.int .i64 t533, .int .u64 0, .int .u64 0, .int .u64 0, .int .i64 0]) ?_ 1 _ rfl; (with_reducible repeat (first | refine bN ?_ _ | refine bD ?_ | refine bA ?_ _)); refine blk_put (cs := #[.int .i64 0, .int .u64 0, .int .u64 0, .int .u64 0, .int .i64 0]) ?_ 0 _ rfl; (with_reducible repeat (first | refine bN ?_ _ | refine bD ?_ | refine bA ?_ _)); exact BK539.out⟩, ⟨by repeat (first | (with_reducible first | exact HB.out | apply pA | apply pN | apply p1 | refine pS ?_ GE539.out) | exact HB.out)⟩⟩
                    · rw [if_neg c18] at H
                      have c18b0 : (t541 == t543) = false := beq_eq_false_iff_ne.mpr c18
                      have c18b1 : (t541 != t543) = true := bne_iff_ne.mpr c18
                      (first | rw [c18b0] | (simp only [i64_w, i32_w]; rw [c18b0]) | skip)
                      have H' := Aside0.mk H
                      clear H
                      go_wp2
                      go_meet
                      case rel => exact ⟨_, (true), (by first | rfl | (simp; done) | (simp [*]; done)), H', ⟨by first | omega | exact Nat.le_refl _⟩, ⟨by (with_reducible repeat (first | refine bN ?_ _ | refine bD ?_ | refine bA ?_ _)); refine blk_put (cs := #[.int .i64 t533, .int .u64 t534, .int .u64 t535, .int .u64 t536, .int .i64 0]) ?_ 4 _ rfl; (with_reducible repeat (first | refine bN ?_ _ | refine bD ?_ | refine bA ?_ _)); refine blk_put (cs := #[.int .i64 t533, .int .u64 t534, .int .u64 t535, .int .u64 0, .int .i64 0]) ?_ 3 _ rfl; (with_reducible repeat (first | refine bN ?_ _ | refine bD ?_ | refine bA ?_ _)); refine blk_put (cs := #[.int .i64 t533, .int .u64 t534, .int .u64 0, .int .u64 0, .int .i64 0]) ?_ 2 _ rfl; (with_reducible repeat (first | refine bN ?_ _ | refine bD ?_ | refine bA ?_ _)); refine blk_put (cs := #[.int .i64 t533, .int .u64 0, .int .u64 0, .int .u64 0, .int .i64 0]) ?_ 1 _ rfl; (with_reducible repeat (first | refine bN ?_ _ | refine bD ?_ | refine bA ?_ _)); refine blk_put (cs := #[.int .i64 0, .int .u64 0, .int .u64 0, .int .u64 0, .int .i64 0]) ?_ 0 _ rfl; (with_reducible repeat (first | refine bN ?_ _ | refine bD ?_ | refine bA ?_ _)); exact BK539.out⟩, ⟨by repeat (first | (with_reducible first | exact HB.out | apply pA | apply pN | apply p1 | refine pS ?_ GE539.out) | exact HB.out)⟩⟩
                  · have H1 : (vernierlaw05_ShapeBack.j0 k a0 a2 t549 t551 true) = some r := by rw [if_neg (show ¬ (some q558).isNone = true by simp)] at H; exact H
                    clear H
                    have H := H1
                    clear H1
                    try simp only [errW_none, errW_some]
                    have H' := Aside0.mk H
                    clear H
                    go_wp2
                    go_meet
                    case rel => exact ⟨_, (true), (by first | rfl | (simp; done) | (simp [*]; done)), H', ⟨by first | omega | exact Nat.le_refl _⟩, ⟨by (with_reducible repeat (first | refine bN ?_ _ | refine bD ?_ | refine bA ?_ _)); refine blk_put (cs := #[.int .i64 t533, .int .u64 t534, .int .u64 t535, .int .u64 t536, .int .i64 0]) ?_ 4 _ rfl; (with_reducible repeat (first | refine bN ?_ _ | refine bD ?_ | refine bA ?_ _)); refine blk_put (cs := #[.int .i64 t533, .int .u64 t534, .int .u64 t535, .int .u64 0, .int .i64 0]) ?_ 3 _ rfl; (with_reducible repeat (first | refine bN ?_ _ | refine bD ?_ | refine bA ?_ _)); refine blk_put (cs := #[.int .i64 t533, .int .u64 t534, .int .u64 0, .int .u64 0, .int .i64 0]) ?_ 2 _ rfl; (with_reducible repeat (first | refine bN ?_ _ | refine bD ?_ | refine bA ?_ _)); refine blk_put (cs := #[.int .i64 t533, .int .u64 0, .int .u64 0, .int .u64 0, .int .i64 0]) ?_ 1 _ rfl; (with_reducible repeat (first | refine bN ?_ _ | refine bD ?_ | refine bA ?_ _)); refine blk_put (cs := #[.int .i64 0, .int .u64 0, .int .u64 0, .int .u64 0, .int .i64 0]) ?_ 0 _ rfl; (with_reducible repeat (first | refine bN ?_ _ | refine bD ?_ | refine bA ?_ _)); exact BK539.out⟩, ⟨by repeat (first | (with_reducible first | exact HB.out | apply pA | apply pN | apply p1 | refine pS ?_ GE539.out) | exact HB.out)⟩⟩
                · have H1 : (vernierlaw05_ShapeBack.j0 k a0 a2 t549 t551 true) = some r := by rw [if_neg (show ¬ (some q557).isNone = true by simp)] at H; exact H
                  clear H
                  have H := H1
                  clear H1
                  try simp only [errW_none, errW_some]
                  have H' := Aside0.mk H
                  clear H
                  go_wp2
                  go_meet
                  case rel => exact ⟨_, (true), (by first | rfl | (simp; done) | (simp [*]; done)), H', ⟨by first | omega | exact Nat.le_refl _⟩, ⟨by (with_reducible repeat (first | refine bN ?_ _ | refine bD ?_ | refine bA ?_ _)); refine blk_put (cs := #[.int .i64 t533, .int .u64 t534, .int .u64 t535, .int .u64 t536, .int .i64 0]) ?_ 4 _ rfl; (with_reducible repeat (first | refine bN ?_ _ | refine bD ?_ | refine bA ?_ _)); refine blk_put (cs := #[.int .i64 t533, .int .u64 t534, .int .u64 t535, .int .u64 0, .int .i64 0]) ?_ 3 _ rfl; (with_reducible repeat (first | refine bN ?_ _ | refine bD ?_ | refine bA ?_ _)); refine blk_put (cs := #[.int .i64 t533, .int .u64 t534, .int .u64 0, .int .u64 0, .int .i64 0]) ?_ 2 _ rfl; (with_reducible repeat (first | refine bN ?_ _ | refine bD ?_ | refine bA ?_ _)); refine blk_put (cs := #[.int .i64 t533, .int .u64 0, .int .u64 0, .int .u64 0, .int .i64 0]) ?_ 1 _ rfl; (with_reducible repeat (first | refine bN ?_ _ | refine bD ?_ | refine bA ?_ _)); refine blk_put (cs := #[.int .i64 0, .int .u64 0, .int .u64 0, .int .u64 0, .int .i64 0]) ?_ 0 _ rfl; (with_reducible repeat (first | refine bN ?_ _ | refine bD ?_ | refine bA ?_ _)); exact BK539.out⟩, ⟨by repeat (first | (with_reducible first | exact HB.out | apply pA | apply pN | apply p1 | refine pS ?_ GE539.out) | exact HB.out)⟩⟩
              · have H1 : (vernierlaw05_ShapeBack.j0 k a0 a2 t549 t551 true) = some r := by rw [if_neg (show ¬ (some q556).isNone = true by simp)] at H; exact H
                clear H
                have H := H1
                clear H1
                try simp only [errW_none, errW_some]
                have H' := Aside0.mk H
                clear H
                go_wp2
                go_meet
                case rel => exact ⟨_, (true), (by first | rfl | (simp; done) | (simp [*]; done)), H', ⟨by first | omega | exact Nat.le_refl _⟩, ⟨by (with_reducible repeat (first | refine bN ?_ _ | refine bD ?_ | refine bA ?_ _)); refine blk_put (cs := #[.int .i64 t533, .int .u64 t534, .int .u64 t535, .int .u64 t536, .int .i64 0]) ?_ 4 _ rfl; (with_reducible repeat (first | refine bN ?_ _ | refine bD ?_ | refine bA ?_ _)); refine blk_put (cs := #[.int .i64 t533, .int .u64 t534, .int .u64 t535, .int .u64 0, .int .i64 0]) ?_ 3 _ rfl; (with_reducible repeat (first | refine bN ?_ _ | refine bD ?_ | refine bA ?_ _)); refine blk_put (cs := #[.int .i64 t533, .int .u64 t534, .int .u64 0, .int .u64 0, .int .i64 0]) ?_ 2 _ rfl; (with_reducible repeat (first | refine bN ?_ _ | refine bD ?_ | refine bA ?_ _)); refine blk_put (cs := #[.int .i64 t533, .int .u64 0, .int .u64 0, .int .u64 0, .int .i64 0]) ?_ 1 _ rfl; (with_reducible repeat (first | refine bN ?_ _ | refine bD ?_ | refine bA ?_ _)); refine blk_put (cs := #[.int .i64 0, .int .u64 0, .int .u64 0, .int .u64 0, .int .i64 0]) ?_ 0 _ rfl; (with_reducible repeat (first | refine bN ?_ _ | refine bD ?_ | refine bA ?_ _)); exact BK539.out⟩, ⟨by repeat (first | (with_reducible first | exact HB.out | apply pA | apply pN | apply p1 | refine pS ?_ GE539.out) | exact HB.out)⟩⟩
            · have H1 : (vernierlaw05_ShapeBack.j0 k a0 a2 t549 t551 true) = some r := by rw [if_neg (show ¬ (some q555).isNone = true by simp)] at H; exact H
              clear H
              have H := H1
              clear H1
              try simp only [errW_none, errW_some]
              have H' := Aside0.mk H
              clear H
              go_wp2
              go_meet
              case rel => exact ⟨_, (true), (by first | rfl | (simp; done) | (simp [*]; done)), H', ⟨by first | omega | exact Nat.le_refl _⟩, ⟨by (with_reducible repeat (first | refine bN ?_ _ | refine bD ?_ | refine bA ?_ _)); refine blk_put (cs := #[.int .i64 t533, .int .u64 t534, .int .u64 t535, .int .u64 t536, .int .i64 0]) ?_ 4 _ rfl; (with_reducible repeat (first | refine bN ?_ _ | refine bD ?_ | refine bA ?_ _)); refine blk_put (cs := #[.int .i64 t533, .int .u64 t534, .int .u64 t535, .int .u64 0, .int .i64 0]) ?_ 3 _ rfl; (with_reducible repeat (first | refine bN ?_ _ | refine bD ?_ | refine bA ?_ _)); refine blk_put (cs := #[.int .i64 t533, .int .u64 t534, .int .u64 0, .int .u64 0, .int .i64 0]) ?_ 2 _ rfl; (with_reducible repeat (first | refine bN ?_ _ | refine bD ?_ | refine bA ?_ _)); refine blk_put (cs := #[.int .i64 t533, .int .u64 0, .int .u64 0, .int .u64 0, .int .i64 0]) ?_ 1 _ rfl; (with_reducible repeat (first | refine bN ?_ _ | refine bD ?_ | refine bA ?_ _)); refine blk_put (cs := #[.int .i64 0, .int .u64 0, .int .u64 0, .int .u64 0, .int .i64 0]) ?_ 0 _ rfl; (with_reducible repeat (first | refine bN ?_ _ | refine bD ?_ | refine bA ?_ _)); exact BK539.out⟩, ⟨by repeat (first | (with_reducible first | exact HB.out | apply pA | apply pN | apply p1 | refine pS ?_ GE539.out) | exact HB.out)⟩⟩
          · have H1 : (vernierlaw05_ShapeBack.j0 k a0 a2 t549 t551 true) = some r := by rw [if_neg (show ¬ (some q554).isNone = true by simp)] at H; exact H
            clear H
            have H := H1
            clear H1
            try simp only [errW_none, errW_some]
            have H' := Aside0.mk H
            clear H
            go_wp2
            go_meet
            case rel => exact ⟨_, (true), (by first | rfl | (simp; done) | (simp [*]; done)), H', ⟨by first | omega | exact Nat.le_refl _⟩, ⟨by (with_reducible repeat (first | refine bN ?_ _ | refine bD ?_ | refine bA ?_ _)); refine blk_put (cs := #[.int .i64 t533, .int .u64 t534, .int .u64 t535, .int .u64 t536, .int .i64 0]) ?_ 4 _ rfl; (with_reducible repeat (first | refine bN ?_ _ | refine bD ?_ | refine bA ?_ _)); refine blk_put (cs := #[.int .i64 t533, .int .u64 t534, .int .u64 t535, .int .u64 0, .int .i64 0]) ?_ 3 _ rfl; (with_reducible repeat (first | refine bN ?_ _ | refine bD ?_ | refine bA ?_ _)); refine blk_put (cs := #[.int .i64 t533, .int .u64 t534, .int .u64 0, .int .u64 0, .int .i64 0]) ?_ 2 _ rfl; (with_reducible repeat (first | refine bN ?_ _ | refine bD ?_ | refine bA ?_ _)); refine blk_put (cs := #[.int .i64 t533, .int .u64 0, .int .u64 0, .int .u64 0, .int .i64 0]) ?_ 1 _ rfl; (with_reducible repeat (first | refine bN ?_ _ | refine bD ?_ | refine bA ?_ _)); refine blk_put (cs := #[.int .i64 0, .int .u64 0, .int .u64 0, .int .u64 0, .int .i64 0]) ?_ 0 _ rfl; (with_reducible repeat (first | refine bN ?_ _ | refine bD ?_ | refine bA ?_ _)); exact BK539.out⟩, ⟨by repeat (first | (with_reducible first | exact HB.out | apply pA | apply pN | apply p1 | refine pS ?_ GE539.out) | exact HB.out)⟩⟩
        · have H1 : (vernierlaw05_ShapeBack.j0 k a0 a2 t549 t551 true) = some r := by rw [if_neg (show ¬ (some q553).isNone = true by simp)] at H; exact H
          clear H
          have H := H1
          clear H1
          try simp only [errW_none, errW_some]
          have H' := Aside0.mk H
          clear H
          go_wp2
          go_meet
          case rel => exact ⟨_, (true), (by first | rfl | (simp; done) | (simp [*]; done)), H', ⟨by first | omega | exact Nat.le_refl _⟩, ⟨by (with_reducible repeat (first | refine bN ?_ _ | refine bD ?_ | refine bA ?_ _)); refine blk_put (cs := #[.int .i64 t533, .int .u64 t534, .int .u64 t535, .int .u64 t536, .int .i64 0]) ?_ 4 _ rfl; (with_reducible repeat (first | refine bN ?_ _ | refine bD ?_ | refine bA ?_ _)); refine blk_put (cs := #[.int .i64 t533, .int .u64 t534, .int .u64 t535, .int .u64 0, .int .i64 0]) ?_ 3 _ rfl; (with_reducible repeat (first | refine bN ?_ _ | refine bD ?_ | refine bA ?_ _)); refine blk_put (cs := #[.int .i64 t533, .int .u64 t534, .int .u64 0, .int .u64 0, .int .i64 0]) ?_ 2 _ rfl; (with_reducible repeat (first | refine bN ?_ _ | refine bD ?_ | refine bA ?_ _)); refine blk_put (cs := #[.int .i64 t533, .int .u64 0, .int .u64 0, .int .u64 0, .int .i64 0]) ?_ 1 _ rfl; (with_reducible repeat (first | refine bN ?_ _ | refine bD ?_ | refine bA ?_ _)); refine blk_put (cs := #[.int .i64 0, .int .u64 0, .int .u64 0, .int .u64 0, .int .i64 0]) ?_ 0 _ rfl; (with_reducible repeat (first | refine bN ?_ _ | refine bD ?_ | refine bA ?_ _)); exact BK539.out⟩, ⟨by repeat (first | (with_reducible first | exact HB.out | apply pA | apply pN | apply p1 | refine pS ?_ GE539.out) | exact HB.out)⟩⟩
      · replace c17 := Bool.eq_false_iff.mpr c17
        subst c17
        have H1 : (vernierlaw05_ShapeBack.j0 k a0 a2 t549 t551 true) = some r := by rw [if_neg (show ¬ (false = true) by decide)] at H; exact H
        clear H
        have H := H1
        clear H1
        have H' := Aside0.mk H
        clear H
        go_wp2
        go_meet
        case rel => exact ⟨_, (true), (by first | rfl | (simp; done) | (simp [*]; done)), H', ⟨by first | omega | exact Nat.le_refl _⟩, ⟨by (with_reducible repeat (first | refine bN ?_ _ | refine bD ?_ | refine bA ?_ _)); refine blk_put (cs := #[.int .i64 t533, .int .u64 t534, .int .u64 t535, .int .u64 t536, .int .i64 0]) ?_ 4 _ rfl; (with_reducible repeat (first | refine bN ?_ _ | refine bD ?_ | refine bA ?_ _)); refine blk_put (cs := #[.int .i64 t533, .int .u64 t534, .int .u64 t535, .int .u64 0, .int .i64 0]) ?_ 3 _ rfl; (with_reducible repeat (first | refine bN ?_ _ | refine bD ?_ | refine bA ?_ _)); refine blk_put (cs := #[.int .i64 t533, .int .u64 t534, .int .u64 0, .int .u64 0, .int .i64 0]) ?_ 2 _ rfl; (with_reducible repeat (first | refine bN ?_ _ | refine bD ?_ | refine bA ?_ _)); refine blk_put (cs := #[.int .i64 t533, .int .u64 0, .int .u64 0, .int .u64 0, .int .i64 0]) ?_ 1 _ rfl; (with_reducible repeat (first | refine bN ?_ _ | refine bD ?_ | refine bA ?_ _)); refine blk_put (cs := #[.int .i64 0, .int .u64 0, .int .u64 0, .int .u64 0, .int .i64 0]) ?_ 0 _ rfl; (with_reducible repeat (first | refine bN ?_ _ | refine bD ?_ | refine bA ?_ _)); exact BK539.out⟩, ⟨by repeat (first | (with_reducible first | exact HB.out | apply pA | apply pN | apply p1 | refine pS ?_ GE539.out) | exact HB.out)⟩⟩
    case rest =>
      clear HC12
      try clear c1
      try clear c2
      try clear p2
      try clear c3
      try clear c4
      try clear c5
      try clear q5
      try clear c16
      try clear c17
      try clear c18
      try clear c18b0
      try clear c18b1
      try clear c19
      try clear c19b0
      try clear c19b1
      try clear c20
      try clear c20b0
      try clear hcz16_0
      try clear hcz16_1
      try clear hcz16_2
      try clear hcz16_3
      try clear hcz16_4
      try clear hfz16_0
      try clear hfz16_1
      try clear hfz16_2
      try clear hfz16_3
      try clear hfz16_4
      try clear q540
      try clear q553
      try clear q554
      try clear q555
      try clear q556
      try clear q557
      try clear q558
      obtain ⟨kq, x140_11, rfl, HA, HJ11, BK539, HB⟩ := hcut
      cases kq with
      | zero => exact absurd HA.out (by simp [vernierlaw05_ShapeBack.j0])
      | succ kj11 =>
        have H := HA.out
        clear HA
        simp only [vernierlaw05_ShapeBack.j0] at H
        by_cases c21 : x140_11 = true
        · subst c21
          have H1 : (some false) = some r := by rw [if_pos rfl] at H; exact H
          clear H
          have H := H1
          clear H1
          obtain rfl := Option.some.inj H
          go_wp2
          go_ret
          exact ⟨by first | rfl | (simp [errW_none, errW_some] <;> rfl) | (simp [*, errW_none, errW_some] <;> rfl), by repeat (first | (with_reducible first | exact HB.out | apply pA | apply pN | apply p1 | refine pS ?_ GE539.out) | exact HB.out)⟩
        · replace c21 := Bool.eq_false_iff.mpr c21
          subst c21
          have H1 : ((shape_Pattern.f a0 a2).bind fun bt559 => (if bt559.2.isNone = true then ((shape_Rank.f a0 bt559.1).bind fun bt562 => (if bt562.2.isNone = true then (if bt562.1 = a2 then (if a2 ≥ t549 then (some (decide (a2 ≤ t551))) else (some false)) else (some false)) else (some false))) else (if (bt559.2.getD 0) = 1 then (if bt559.1 = 0 then (if a2 < t549 then (some true) else (some (decide (a2 > t551)))) else (some false)) else (some false)))) = some r := by rw [if_neg (show ¬ (false = true) by decide)] at H; exact H
          clear H
          have H := H1
          clear H1
          replace H := Option.bind_eq_some_iff.mp H
          obtain ⟨⟨t559, t560⟩, A220, H⟩ := H
          replace H : (if t560.isNone = true then ((shape_Rank.f a0 t559).bind fun bt562 => (if bt562.2.isNone = true then (if bt562.1 = a2 then (if a2 ≥ t549 then (some (decide (a2 ≤ t551))) else (some false)) else (some false)) else (some false))) else (if (t560.getD 0) = 1 then (if t559 = 0 then (if a2 < t549 then (some true) else (some (decide (a2 > t551)))) else (some false)) else (some false))) = some r := H
          have A22 := Aside0.mk A220
          clear A220
          rcases t560 with _ | q561
          · have H1 : ((shape_Rank.f a0 t559).bind fun bt562 => (if bt562.2.isNone = true then (if bt562.1 = a2 then (if a2 ≥ t549 then (some (decide (a2 ≤ t551))) else (some false)) else (some false)) else (some false))) = some r := by rw [if_pos (show (none : Option Int).isNone = true by rfl)] at H; exact H
            clear H
            have H := H1
            clear H1
            try simp only [errW_none, errW_some]
            replace H := Option.bind_eq_some_iff.mp H
            obtain ⟨⟨t562, t563⟩, A230, H⟩ := H
            replace H : (if t563.isNone = true then (if t562 = a2 then (if a2 ≥ t549 then (some (decide (a2 ≤ t551))) else (some false)) else (some false)) else (some false)) = some r := H
            have A23 := Aside0.mk A230
            clear A230
            rcases t563 with _ | q564
            · have H1 : (if t562 = a2 then (if a2 ≥ t549 then (some (decide (a2 ≤ t551))) else (some false)) else (some false)) = some r := by rw [if_pos (show (none : Option Int).isNone = true by rfl)] at H; exact H
              clear H
              have H := H1
              clear H1
              try simp only [errW_none, errW_some]
              by_cases c24 : t562 = a2
              · rw [if_pos c24] at H
                have c24b0 : (t562 == a2) = true := beq_iff_eq.mpr c24
                have c24b1 : (t562 != a2) = false := bne_eq_false_iff_eq.mpr c24
                clear c24
                by_cases c25 : a2 ≥ t549
                · rw [if_pos c25] at H
                  have c25b0 : decide (t549 ≤ a2) = true := decide_eq_true c25
                  clear c25
                  obtain rfl := Option.some.inj H
                  go_wp2_with (first | ((with_reducible refine gC (f := 40) rfl ?_); refine goesY_ (some 144) Try.func40 #[.int .i64 a0, .int .i64 a2] ?_; (with_reducible refine (shape_Pattern.calls a0 a2 t559 none _ A22.out).mono ?_); rintro e w' ⟨rfl, ⟨nd, rfl⟩⟩; refine ⟨_, rfl, ?_⟩; (try simp only [errW_none, errW_some])) | ((with_reducible refine gC (f := 51) rfl ?_); refine goesY_ (some 169) Try.func51 #[.int .i64 a0, .int .u64 t559] ?_; (with_reducible refine (shape_Rank.calls a0 t559 t562 none _ A23.out).mono ?_); rintro e w' ⟨rfl, ⟨nd, rfl⟩⟩; refine ⟨_, rfl, ?_⟩; (try simp only [errW_none, errW_some])))
                  go_ret
                  exact ⟨by first | rfl | (simp [errW_none, errW_some] <;> rfl) | (simp [*, errW_none, errW_some] <;> rfl), by repeat (first | (with_reducible first | exact HB.out | apply pA | apply pN | apply p1 | refine pS ?_ GE539.out) | exact HB.out)⟩
                · rw [if_neg c25] at H
                  have c25b0 : decide (t549 ≤ a2) = false := decide_eq_false c25
                  clear c25
                  obtain rfl := Option.some.inj H
                  go_wp2_with (first | ((with_reducible refine gC (f := 40) rfl ?_); refine goesY_ (some 144) Try.func40 #[.int .i64 a0, .int .i64 a2] ?_; (with_reducible refine (shape_Pattern.calls a0 a2 t559 none _ A22.out).mono ?_); rintro e w' ⟨rfl, ⟨nd, rfl⟩⟩; refine ⟨_, rfl, ?_⟩; (try simp only [errW_none, errW_some])) | ((with_reducible refine gC (f := 51) rfl ?_); refine goesY_ (some 169) Try.func51 #[.int .i64 a0, .int .u64 t559] ?_; (with_reducible refine (shape_Rank.calls a0 t559 t562 none _ A23.out).mono ?_); rintro e w' ⟨rfl, ⟨nd, rfl⟩⟩; refine ⟨_, rfl, ?_⟩; (try simp only [errW_none, errW_some])))
                  go_ret
                  exact ⟨by first | rfl | (simp [errW_none, errW_some] <;> rfl) | (simp [*, errW_none, errW_some] <;> rfl), by repeat (first | (with_reducible first | exact HB.out | apply pA | apply pN | apply p1 | refine pS ?_ GE539.out) | exact HB.out)⟩
              · rw [if_neg c24] at H
                have c24b0 : (t562 == a2) = false := beq_eq_false_iff_ne.mpr c24
                have c24b1 : (t562 != a2) = true := bne_iff_ne.mpr c24
                obtain rfl := Option.some.inj H
                go_wp2_with (first | ((with_reducible refine gC (f := 40) rfl ?_); refine goesY_ (some 144) Try.func40 #[.int .i64 a0, .int .i64 a2] ?_; (with_reducible refine (shape_Pattern.calls a0 a2 t559 none _ A22.out).mono ?_); rintro e w' ⟨rfl, ⟨nd, rfl⟩⟩; refine ⟨_, rfl, ?_⟩; (try simp only [errW_none, errW_some])) | ((with_reducible refine gC (f := 51) rfl ?_); refine goesY_ (some 169) Try.func51 #[.int .i64 a0, .int .u64 t559] ?_; (with_reducible refine (shape_Rank.calls a0 t559 t562 none _ A23.out).mono ?_); rintro e w' ⟨rfl, ⟨nd, rfl⟩⟩; refine ⟨_, rfl, ?_⟩; (try simp only [errW_none, errW_some])))
                go_ret
                exact ⟨by first | rfl | (simp [errW_none, errW_some] <;> rfl) | (simp [*, errW_none, errW_some] <;> rfl), by repeat (first | (with_reducible first | exact HB.out | apply pA | apply pN | apply p1 | refine pS ?_ GE539.out) | exact HB.out)⟩
            · have H1 : (some false) = some r := by rw [if_neg (show ¬ (some q564).isNone = true by simp)] at H; exact H
              clear H
              have H := H1
              clear H1
              try simp only [errW_none, errW_some]
              obtain rfl := Option.some.inj H
              go_wp2_with (first | ((with_reducible refine gC (f := 40) rfl ?_); refine goesY_ (some 144) Try.func40 #[.int .i64 a0, .int .i64 a2] ?_; (with_reducible refine (shape_Pattern.calls a0 a2 t559 none _ A22.out).mono ?_); rintro e w' ⟨rfl, ⟨nd, rfl⟩⟩; refine ⟨_, rfl, ?_⟩; (try simp only [errW_none, errW_some])) | ((with_reducible refine gC (f := 51) rfl ?_); refine goesY_ (some 169) Try.func51 #[.int .i64 a0, .int .u64 t559] ?_; (with_reducible refine (shape_Rank.calls a0 t559 t562 (some q564) _ A23.out).mono ?_); rintro e w' ⟨rfl, ⟨nd, rfl⟩⟩; refine ⟨_, rfl, ?_⟩; (try simp only [errW_none, errW_some])))
              go_ret
              exact ⟨by first | rfl | (simp [errW_none, errW_some] <;> rfl) | (simp [*, errW_none, errW_some] <;> rfl), by repeat (first | (with_reducible first | exact HB.out | apply pA | apply pN | apply p1 | refine pS ?_ GE539.out) | exact HB.out)⟩
          · have H1 : (if q561 = 1 then (if t559 = 0 then (if a2 < t549 then (some true) else (some (decide (a2 > t551)))) else (some false)) else (some false)) = some r := by rw [if_neg (show ¬ (some q561).isNone = true by simp)] at H; exact H
            clear H
            have H := H1
            clear H1
            try simp only [errW_none, errW_some]
            by_cases c26 : q561 = 1
            · rw [if_pos c26] at H
              have c26b0 : (q561 == 1) = true := beq_iff_eq.mpr c26
              have c26b1 : (q561 != 1) = false := bne_eq_false_iff_eq.mpr c26
              clear c26
              by_cases c27 : t559 = 0
              · rw [if_pos c27] at H
                have c27b0 : (t559 == 0) = true := beq_iff_eq.mpr c27
                have c27b1 : (t559 != 0) = false := bne_eq_false_iff_eq.mpr c27
                clear c27
                by_cases c28 : a2 < t549
                · rw [if_pos c28] at H
                  have c28b0 : decide (a2 < t549) = true := decide_eq_true c28
                  clear c28
                  obtain rfl := Option.some.inj H
                  go_wp2_with (first | ((with_reducible refine gC (f := 40) rfl ?_); refine goesY_ (some 144) Try.func40 #[.int .i64 a0, .int .i64 a2] ?_; (with_reducible refine (shape_Pattern.calls a0 a2 t559 (some q561) _ A22.out).mono ?_); rintro e w' ⟨rfl, ⟨nd, rfl⟩⟩; refine ⟨_, rfl, ?_⟩; (try simp only [errW_none, errW_some])))
                  go_ret
                  exact ⟨by first | rfl | (simp [errW_none, errW_some] <;> rfl) | (simp [*, errW_none, errW_some] <;> rfl), by repeat (first | (with_reducible first | exact HB.out | apply pA | apply pN | apply p1 | refine pS ?_ GE539.out) | exact HB.out)⟩
                · rw [if_neg c28] at H
                  have c28b0 : decide (a2 < t549) = false := decide_eq_false c28
                  clear c28
                  obtain rfl := Option.some.inj H
                  go_wp2_with (first | ((with_reducible refine gC (f := 40) rfl ?_); refine goesY_ (some 144) Try.func40 #[.int .i64 a0, .int .i64 a2] ?_; (with_reducible refine (shape_Pattern.calls a0 a2 t559 (some q561) _ A22.out).mono ?_); rintro e w' ⟨rfl, ⟨nd, rfl⟩⟩; refine ⟨_, rfl, ?_⟩; (try simp only [errW_none, errW_some])))
                  go_ret
                  exact ⟨by first | rfl | (simp [errW_none, errW_some] <;> rfl) | (simp [*, errW_none, errW_some] <;> rfl), by repeat (first | (with_reducible first | exact HB.out | apply pA | apply pN | apply p1 | refine pS ?_ GE539.out) | exact HB.out)⟩
              · rw [if_neg c27] at H
                have c27b0 : (t559 == 0) = false := beq_eq_false_iff_ne.mpr c27
                have c27b1 : (t559 != 0) = true := bne_iff_ne.mpr c27
                obtain rfl := Option.some.inj H
                go_wp2_with (first | ((with_reducible refine gC (f := 40) rfl ?_); refine goesY_ (some 144) Try.func40 #[.int .i64 a0, .int .i64 a2] ?_; (with_reducible refine (shape_Pattern.calls a0 a2 t559 (some q561) _ A22.out).mono ?_); rintro e w' ⟨rfl, ⟨nd, rfl⟩⟩; refine ⟨_, rfl, ?_⟩; (try simp only [errW_none, errW_some])))
                go_ret
                exact ⟨by first | rfl | (simp [errW_none, errW_some] <;> rfl) | (simp [*, errW_none, errW_some] <;> rfl), by repeat (first | (with_reducible first | exact HB.out | apply pA | apply pN | apply p1 | refine pS ?_ GE539.out) | exact HB.out)⟩
            · rw [if_neg c26] at H
              have c26b0 : (q561 == 1) = false := beq_eq_false_iff_ne.mpr c26
              have c26b1 : (q561 != 1) = true := bne_iff_ne.mpr c26
              obtain rfl := Option.some.inj H
              go_wp2_with (first | ((with_reducible refine gC (f := 40) rfl ?_); refine goesY_ (some 144) Try.func40 #[.int .i64 a0, .int .i64 a2] ?_; (with_reducible refine (shape_Pattern.calls a0 a2 t559 (some q561) _ A22.out).mono ?_); rintro e w' ⟨rfl, ⟨nd, rfl⟩⟩; refine ⟨_, rfl, ?_⟩; (try simp only [errW_none, errW_some])))
              go_ret
              exact ⟨by first | rfl | (simp [errW_none, errW_some] <;> rfl) | (simp [*, errW_none, errW_some] <;> rfl), by repeat (first | (with_reducible first | exact HB.out | apply pA | apply pN | apply p1 | refine pS ?_ GE539.out) | exact HB.out)⟩
  · have H1 : ((shape_Rank.f a0 a1).bind fun bt565 => (if t532 = true then (if q540 = 2 then (if bt565.2.isNone = true then (some false) else (if (bt565.2.getD 0) = 2 then (some (bt565.1 == 0)) else (some false))) else (some false)) else (some false))) = some r := by rw [if_neg (show ¬ (some q540).isNone = true by simp)] at H; exact H
    clear H
    have H := H1
    clear H1
    try simp only [errW_none, errW_some]
    replace H := Option.bind_eq_some_iff.mp H
    obtain ⟨⟨t565, t566⟩, A290, H⟩ := H
    replace H : (if t532 = true then (if q540 = 2 then (if t566.isNone = true then (some false) else (if (t566.getD 0) = 2 then (some (t565 == 0)) else (some false))) else (some false)) else (some false)) = some r := H
    have A29 := Aside0.mk A290
    clear A290
    by_cases c30 : t532 = true
    · subst c30
      have H1 : (if q540 = 2 then (if t566.isNone = true then (some false) else (if (t566.getD 0) = 2 then (some (t565 == 0)) else (some false))) else (some false)) = some r := by rw [if_pos rfl] at H; exact H
      clear H
      have H := H1
      clear H1
      by_cases c31 : q540 = 2
      · rw [if_pos c31] at H
        have c31b0 : (q540 == 2) = true := beq_iff_eq.mpr c31
        have c31b1 : (q540 != 2) = false := bne_eq_false_iff_eq.mpr c31
        clear c31
        rcases t566 with _ | q567
        · have H1 : (some false) = some r := by rw [if_pos (show (none : Option Int).isNone = true by rfl)] at H; exact H
          clear H
          have H := H1
          clear H1
          try simp only [errW_none, errW_some]
          obtain rfl := Option.some.inj H
          go_enter Try.func16, Try.ntmps16
          go_wp2_with (first | ((with_reducible refine gC (f := 39) rfl ?_); refine goesY_ (some 28) Try.func39 #[] ?_; (with_reducible refine (vernierlaw05_up.calls  true _ A4.out).mono ?_); rintro e w32 ⟨rfl, hb⟩; refine ⟨_, rfl, ?_⟩; have n0_ := Aside0.mk (bS3 HB.out hb); clear HB; have HB := n0_; clear n0_; (try clear hb); (try clear hb2); (try clear hk); (try clear hi)) | ((with_reducible refine gC (f := 44) rfl ?_); refine goesY_ (some 31) Try.func44 #[.int .i64 a0] ?_; (with_reducible refine (shape_Of.calls a0 t533 t534 t535 t536 t537 (some q540) _ A5.out).mono ?_); rintro e w33 ⟨rfl, hb⟩; refine ⟨_, rfl, ?_⟩; have n0_ := Aside0.mk (bS3 HB.out hb); clear HB; have HB := n0_; clear n0_; (try clear hb); (try clear hb2); (try clear hk); (try clear hi); (try simp only [errW_none, errW_some])) | ((with_reducible refine gD (N := 8) rfl ?_); refine bE3 8 #[.int .i64 0, .int .u64 0, .int .u64 0, .int .u64 0, .int .i64 0] 58 ?hr ?_; (case hr => first | (go_simp; done) | (go_simp; rfl)); intro gb539 hg w34 hbox hb; have n0_ := Aside0.mk (bS3 HB.out hb); have n1_ := Aside0.mk (hbox); have n2_ := Aside0.mk ((bZ3 hg HB.out)); have n3_ := Aside0.mk ((bZ3 hg HB.out)); clear HB; have HB := n0_; have BK539 := n1_; have GW539 := n2_; have GE539 := n3_; clear n0_ n1_ n2_ n3_; clear hb hbox hg; have hcz35_0 : w34.cell? ⟨gb539, 0, none⟩ = some (.int .i64 0) := (blk_cell BK539.out 0).trans rfl; have hcz35_1 : w34.cell? ⟨gb539, 1, none⟩ = some (.int .u64 0) := (blk_cell BK539.out 1).trans rfl; have hcz35_2 : w34.cell? ⟨gb539, 2, none⟩ = some (.int .u64 0) := (blk_cell BK539.out 2).trans rfl; have hcz35_3 : w34.cell? ⟨gb539, 3, none⟩ = some (.int .u64 0) := (blk_cell BK539.out 3).trans rfl; have hcz35_4 : w34.cell? ⟨gb539, 4, none⟩ = some (.int .i64 0) := (blk_cell BK539.out 4).trans rfl; have hfz35_0 := blk_frozen BK539.out 0; have hfz35_1 := blk_frozen BK539.out 1; have hfz35_2 := blk_frozen BK539.out 2; have hfz35_3 := blk_frozen BK539.out 3; have hfz35_4 := blk_frozen BK539.out 4) | ((with_reducible refine gC (f := 51) rfl ?_); refine goesY_ (some 39) Try.func51 #[.int .i64 a0, .int .u64 a1] ?_; (with_reducible refine (shape_Rank.calls a0 a1 t565 none _ A29.out).mono ?_); rintro e w' ⟨rfl, ⟨nd, rfl⟩⟩; refine ⟨_, rfl, ?_⟩; (try simp only [errW_none, errW_some])))
          go_ret
          exact ⟨by first | rfl | (simp [errW_none, errW_some] <;> rfl) | (simp [*, errW_none, errW_some] <;> rfl), by repeat (first | (with_reducible first | exact HB.out | apply pA | apply pN | apply p1 | refine pS ?_ GE539.out) | exact HB.out)⟩
        · have H1 : (if q567 = 2 then (some (t565 == 0)) else (some false)) = some r := by rw [if_neg (show ¬ (some q567).isNone = true by simp)] at H; exact H
          clear H
          have H := H1
          clear H1
          try simp only [errW_none, errW_some]
          by_cases c36 : q567 = 2
          · rw [if_pos c36] at H
            have c36b0 : (q567 == 2) = true := beq_iff_eq.mpr c36
            have c36b1 : (q567 != 2) = false := bne_eq_false_iff_eq.mpr c36
            clear c36
            obtain rfl := Option.some.inj H
            go_enter Try.func16, Try.ntmps16
            go_wp2_with (first | ((with_reducible refine gC (f := 39) rfl ?_); refine goesY_ (some 28) Try.func39 #[] ?_; (with_reducible refine (vernierlaw05_up.calls  true _ A4.out).mono ?_); rintro e w37 ⟨rfl, hb⟩; refine ⟨_, rfl, ?_⟩; have n0_ := Aside0.mk (bS3 HB.out hb); clear HB; have HB := n0_; clear n0_; (try clear hb); (try clear hb2); (try clear hk); (try clear hi)) | ((with_reducible refine gC (f := 44) rfl ?_); refine goesY_ (some 31) Try.func44 #[.int .i64 a0] ?_; (with_reducible refine (shape_Of.calls a0 t533 t534 t535 t536 t537 (some q540) _ A5.out).mono ?_); rintro e w38 ⟨rfl, hb⟩; refine ⟨_, rfl, ?_⟩; have n0_ := Aside0.mk (bS3 HB.out hb); clear HB; have HB := n0_; clear n0_; (try clear hb); (try clear hb2); (try clear hk); (try clear hi); (try simp only [errW_none, errW_some])) | ((with_reducible refine gD (N := 8) rfl ?_); refine bE3 8 #[.int .i64 0, .int .u64 0, .int .u64 0, .int .u64 0, .int .i64 0] 58 ?hr ?_; (case hr => first | (go_simp; done) | (go_simp; rfl)); intro gb539 hg w39 hbox hb; have n0_ := Aside0.mk (bS3 HB.out hb); have n1_ := Aside0.mk (hbox); have n2_ := Aside0.mk ((bZ3 hg HB.out)); have n3_ := Aside0.mk ((bZ3 hg HB.out)); clear HB; have HB := n0_; have BK539 := n1_; have GW539 := n2_; have GE539 := n3_; clear n0_ n1_ n2_ n3_; clear hb hbox hg; have hcz40_0 : w39.cell? ⟨gb539, 0, none⟩ = some (.int .i64 0) := (blk_cell BK539.out 0).trans rfl; have hcz40_1 : w39.cell? ⟨gb539, 1, none⟩ = some (.int .u64 0) := (blk_cell BK539.out 1).trans rfl; have hcz40_2 : w39.cell? ⟨gb539, 2, none⟩ = some (.int .u64 0) := (blk_cell BK539.out 2).trans rfl; have hcz40_3 : w39.cell? ⟨gb539, 3, none⟩ = some (.int .u64 0) := (blk_cell BK539.out 3).trans rfl; have hcz40_4 : w39.cell? ⟨gb539, 4, none⟩ = some (.int .i64 0) := (blk_cell BK539.out 4).trans rfl; have hfz40_0 := blk_frozen BK539.out 0; have hfz40_1 := blk_frozen BK539.out 1; have hfz40_2 := blk_frozen BK539.out 2; have hfz40_3 := blk_frozen BK539.out 3; have hfz40_4 := blk_frozen BK539.out 4) | ((with_reducible refine gC (f := 51) rfl ?_); refine goesY_ (some 39) Try.func51 #[.int .i64 a0, .int .u64 a1] ?_; (with_reducible refine (shape_Rank.calls a0 a1 t565 (some q567) _ A29.out).mono ?_); rintro e w' ⟨rfl, ⟨nd, rfl⟩⟩; refine ⟨_, rfl, ?_⟩; (try simp only [errW_none, errW_some])))
            go_ret
            exact ⟨by first | rfl | (simp [errW_none, errW_some] <;> rfl) | (simp [*, errW_none, errW_some] <;> rfl), by repeat (first | (with_reducible first | exact HB.out | apply pA | apply pN | apply p1 | refine pS ?_ GE539.out) | exact HB.out)⟩
          · rw [if_neg c36] at H
            have c36b0 : (q567 == 2) = false := beq_eq_false_iff_ne.mpr c36
            have c36b1 : (q567 != 2) = true := bne_iff_ne.mpr c36
            obtain rfl := Option.some.inj H
            go_enter Try.func16, Try.ntmps16
            go_wp2_with (first | ((with_reducible refine gC (f := 39) rfl ?_); refine goesY_ (some 28) Try.func39 #[] ?_; (with_reducible refine (vernierlaw05_up.calls  true _ A4.out).mono ?_); rintro e w41 ⟨rfl, hb⟩; refine ⟨_, rfl, ?_⟩; have n0_ := Aside0.mk (bS3 HB.out hb); clear HB; have HB := n0_; clear n0_; (try clear hb); (try clear hb2); (try clear hk); (try clear hi)) | ((with_reducible refine gC (f := 44) rfl ?_); refine goesY_ (some 31) Try.func44 #[.int .i64 a0] ?_; (with_reducible refine (shape_Of.calls a0 t533 t534 t535 t536 t537 (some q540) _ A5.out).mono ?_); rintro e w42 ⟨rfl, hb⟩; refine ⟨_, rfl, ?_⟩; have n0_ := Aside0.mk (bS3 HB.out hb); clear HB; have HB := n0_; clear n0_; (try clear hb); (try clear hb2); (try clear hk); (try clear hi); (try simp only [errW_none, errW_some])) | ((with_reducible refine gD (N := 8) rfl ?_); refine bE3 8 #[.int .i64 0, .int .u64 0, .int .u64 0, .int .u64 0, .int .i64 0] 58 ?hr ?_; (case hr => first | (go_simp; done) | (go_simp; rfl)); intro gb539 hg w43 hbox hb; have n0_ := Aside0.mk (bS3 HB.out hb); have n1_ := Aside0.mk (hbox); have n2_ := Aside0.mk ((bZ3 hg HB.out)); have n3_ := Aside0.mk ((bZ3 hg HB.out)); clear HB; have HB := n0_; have BK539 := n1_; have GW539 := n2_; have GE539 := n3_; clear n0_ n1_ n2_ n3_; clear hb hbox hg; have hcz44_0 : w43.cell? ⟨gb539, 0, none⟩ = some (.int .i64 0) := (blk_cell BK539.out 0).trans rfl; have hcz44_1 : w43.cell? ⟨gb539, 1, none⟩ = some (.int .u64 0) := (blk_cell BK539.out 1).trans rfl; have hcz44_2 : w43.cell? ⟨gb539, 2, none⟩ = some (.int .u64 0) := (blk_cell BK539.out 2).trans rfl; have hcz44_3 : w43.cell? ⟨gb539, 3, none⟩ = some (.int .u64 0) := (blk_cell BK539.out 3).trans rfl; have hcz44_4 : w43.cell? ⟨gb539, 4, none⟩ = some (.int .i64 0) := (blk_cell BK539.out 4).trans rfl; have hfz44_0 := blk_frozen BK539.out 0; have hfz44_1 := blk_frozen BK539.out 1; have hfz44_2 := blk_frozen BK539.out 2; have hfz44_3 := blk_frozen BK539.out 3; have hfz44_4 := blk_frozen BK539.out 4) | ((with_reducible refine gC (f := 51) rfl ?_); refine goesY_ (some 39) Try.func51 #[.int .i64 a0, .int .u64 a1] ?_; (with_reducible refine (shape_Rank.calls a0 a1 t565 (some q567) _ A29.out).mono ?_); rintro e w' ⟨rfl, ⟨nd, rfl⟩⟩; refine ⟨_, rfl, ?_⟩; (try simp only [errW_none, errW_some])))
            go_ret
            exact ⟨by first | rfl | (simp [errW_none, errW_some] <;> rfl) | (simp [*, errW_none, errW_some] <;> rfl), by repeat (first | (with_reducible first | exact HB.out | apply pA | apply pN | apply p1 | refine pS ?_ GE539.out) | exact HB.out)⟩
      · rw [if_neg c31] at H
        have c31b0 : (q540 == 2) = false := beq_eq_false_iff_ne.mpr c31
        have c31b1 : (q540 != 2) = true := bne_iff_ne.mpr c31
        obtain rfl := Option.some.inj H
        go_enter Try.func16, Try.ntmps16
        go_wp2_with (first | ((with_reducible refine gC (f := 39) rfl ?_); refine goesY_ (some 28) Try.func39 #[] ?_; (with_reducible refine (vernierlaw05_up.calls  true _ A4.out).mono ?_); rintro e w45 ⟨rfl, hb⟩; refine ⟨_, rfl, ?_⟩; have n0_ := Aside0.mk (bS3 HB.out hb); clear HB; have HB := n0_; clear n0_; (try clear hb); (try clear hb2); (try clear hk); (try clear hi)) | ((with_reducible refine gC (f := 44) rfl ?_); refine goesY_ (some 31) Try.func44 #[.int .i64 a0] ?_; (with_reducible refine (shape_Of.calls a0 t533 t534 t535 t536 t537 (some q540) _ A5.out).mono ?_); rintro e w46 ⟨rfl, hb⟩; refine ⟨_, rfl, ?_⟩; have n0_ := Aside0.mk (bS3 HB.out hb); clear HB; have HB := n0_; clear n0_; (try clear hb); (try clear hb2); (try clear hk); (try clear hi); (try simp only [errW_none, errW_some])) | ((with_reducible refine gD (N := 8) rfl ?_); refine bE3 8 #[.int .i64 0, .int .u64 0, .int .u64 0, .int .u64 0, .int .i64 0] 58 ?hr ?_; (case hr => first | (go_simp; done) | (go_simp; rfl)); intro gb539 hg w47 hbox hb; have n0_ := Aside0.mk (bS3 HB.out hb); have n1_ := Aside0.mk (hbox); have n2_ := Aside0.mk ((bZ3 hg HB.out)); have n3_ := Aside0.mk ((bZ3 hg HB.out)); clear HB; have HB := n0_; have BK539 := n1_; have GW539 := n2_; have GE539 := n3_; clear n0_ n1_ n2_ n3_; clear hb hbox hg; have hcz48_0 : w47.cell? ⟨gb539, 0, none⟩ = some (.int .i64 0) := (blk_cell BK539.out 0).trans rfl; have hcz48_1 : w47.cell? ⟨gb539, 1, none⟩ = some (.int .u64 0) := (blk_cell BK539.out 1).trans rfl; have hcz48_2 : w47.cell? ⟨gb539, 2, none⟩ = some (.int .u64 0) := (blk_cell BK539.out 2).trans rfl; have hcz48_3 : w47.cell? ⟨gb539, 3, none⟩ = some (.int .u64 0) := (blk_cell BK539.out 3).trans rfl; have hcz48_4 : w47.cell? ⟨gb539, 4, none⟩ = some (.int .i64 0) := (blk_cell BK539.out 4).trans rfl; have hfz48_0 := blk_frozen BK539.out 0; have hfz48_1 := blk_frozen BK539.out 1; have hfz48_2 := blk_frozen BK539.out 2; have hfz48_3 := blk_frozen BK539.out 3; have hfz48_4 := blk_frozen BK539.out 4) | ((with_reducible refine gC (f := 51) rfl ?_); refine goesY_ (some 39) Try.func51 #[.int .i64 a0, .int .u64 a1] ?_; (with_reducible refine (shape_Rank.calls a0 a1 t565 t566 _ A29.out).mono ?_); rintro e w' ⟨rfl, ⟨nd, rfl⟩⟩; refine ⟨_, rfl, ?_⟩; (try simp only [errW_none, errW_some])))
        go_ret
        exact ⟨by first | rfl | (simp [errW_none, errW_some] <;> rfl) | (simp [*, errW_none, errW_some] <;> rfl), by repeat (first | (with_reducible first | exact HB.out | apply pA | apply pN | apply p1 | refine pS ?_ GE539.out) | exact HB.out)⟩
    · replace c30 := Bool.eq_false_iff.mpr c30
      subst c30
      have H1 : (some false) = some r := by rw [if_neg (show ¬ (false = true) by decide)] at H; exact H
      clear H
      have H := H1
      clear H1
      obtain rfl := Option.some.inj H
      go_enter Try.func16, Try.ntmps16
      go_wp2_with (first | ((with_reducible refine gC (f := 39) rfl ?_); refine goesY_ (some 28) Try.func39 #[] ?_; (with_reducible refine (vernierlaw05_up.calls  false _ A4.out).mono ?_); rintro e w49 ⟨rfl, hb⟩; refine ⟨_, rfl, ?_⟩; have n0_ := Aside0.mk (bS3 HB.out hb); clear HB; have HB := n0_; clear n0_; (try clear hb); (try clear hb2); (try clear hk); (try clear hi)) | ((with_reducible refine gC (f := 44) rfl ?_); refine goesY_ (some 31) Try.func44 #[.int .i64 a0] ?_; (with_reducible refine (shape_Of.calls a0 t533 t534 t535 t536 t537 (some q540) _ A5.out).mono ?_); rintro e w50 ⟨rfl, hb⟩; refine ⟨_, rfl, ?_⟩; have n0_ := Aside0.mk (bS3 HB.out hb); clear HB; have HB := n0_; clear n0_; (try clear hb); (try clear hb2); (try clear hk); (try clear hi); (try simp only [errW_none, errW_some])) | ((with_reducible refine gD (N := 8) rfl ?_); refine bE3 8 #[.int .i64 0, .int .u64 0, .int .u64 0, .int .u64 0, .int .i64 0] 58 ?hr ?_; (case hr => first | (go_simp; done) | (go_simp; rfl)); intro gb539 hg w51 hbox hb; have n0_ := Aside0.mk (bS3 HB.out hb); have n1_ := Aside0.mk (hbox); have n2_ := Aside0.mk ((bZ3 hg HB.out)); have n3_ := Aside0.mk ((bZ3 hg HB.out)); clear HB; have HB := n0_; have BK539 := n1_; have GW539 := n2_; have GE539 := n3_; clear n0_ n1_ n2_ n3_; clear hb hbox hg; have hcz52_0 : w51.cell? ⟨gb539, 0, none⟩ = some (.int .i64 0) := (blk_cell BK539.out 0).trans rfl; have hcz52_1 : w51.cell? ⟨gb539, 1, none⟩ = some (.int .u64 0) := (blk_cell BK539.out 1).trans rfl; have hcz52_2 : w51.cell? ⟨gb539, 2, none⟩ = some (.int .u64 0) := (blk_cell BK539.out 2).trans rfl; have hcz52_3 : w51.cell? ⟨gb539, 3, none⟩ = some (.int .u64 0) := (blk_cell BK539.out 3).trans rfl; have hcz52_4 : w51.cell? ⟨gb539, 4, none⟩ = some (.int .i64 0) := (blk_cell BK539.out 4).trans rfl; have hfz52_0 := blk_frozen BK539.out 0; have hfz52_1 := blk_frozen BK539.out 1; have hfz52_2 := blk_frozen BK539.out 2; have hfz52_3 := blk_frozen BK539.out 3; have hfz52_4 := blk_frozen BK539.out 4) | ((with_reducible refine gC (f := 51) rfl ?_); refine goesY_ (some 39) Try.func51 #[.int .i64 a0, .int .u64 a1] ?_; (with_reducible refine (shape_Rank.calls a0 a1 t565 t566 _ A29.out).mono ?_); rintro e w' ⟨rfl, ⟨nd, rfl⟩⟩; refine ⟨_, rfl, ?_⟩; (try simp only [errW_none, errW_some])))
      go_ret
      exact ⟨by first | rfl | (simp [errW_none, errW_some] <;> rfl) | (simp [*, errW_none, errW_some] <;> rfl), by repeat (first | (with_reducible first | exact HB.out | apply pA | apply pN | apply p1 | refine pS ?_ GE539.out) | exact HB.out)⟩

/-- THE ONE PURE STATEMENT of vernierlaw05_ShapeBack: yours. -/
def vernierlaw05_ShapeBack.Pure : Prop := ∀ (a0 : Int) (a1 : Int) (a2 : Int), (Lit.int .i64 a0).wf = true → (Lit.int .u64 a1).wf = true → (Lit.int .i64 a2).wf = true → ∃ k, vernierlaw05_ShapeBack.f k a0 a1 a2 = some true
theorem vernierlaw05_ShapeBack.walk (P : vernierlaw05_ShapeBack.Pure) (a0 : Int) (a1 : Int) (a2 : Int) (w : World) (w0 : (Lit.int .i64 a0).wf = true) (w1 : (Lit.int .u64 a1).wf = true) (w2 : (Lit.int .i64 a2).wf = true) :
    Calls Try.prog 16 #[.int .i64 a0, .int .u64 a1, .int .i64 a2] w fun e w' => e = .returned (.bool true) ∧ Below w.heap.size w w' := by
  obtain ⟨k, h⟩ := P a0 a1 a2 w0 w1 w2
  refine (vernierlaw05_ShapeBack.calls k a0 a1 a2 true w h).mono ?_
  rintro e w' ⟨rfl, hd⟩
  exact ⟨rfl, hd⟩

end Go.Proofs.Ytjbcfiigafbobaa.F
