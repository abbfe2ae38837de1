/- Functions of the given program as plain Lean functions, and for each a proof that the program's call comes to just these answers; no further conditions. (Written by a program of this repo out of the translation.) -/
import Derived.Test.YtcokamomcnmocaaF0
import Derived.Test.YtcokamomcnmocaaF5
import Derived.Test.YtcokamomcnmocaaF6
import Derived.Test.YtcokamomcnmocaaF7
import Derived.Test.YtcokamomcnmocaaF9
import Derived.Test.YtcokamomcnmocaaF10
namespace Go.Proofs.Ytcokamomcnmocaa.F
open Go.RowKit Go.Proofs.YtcokamomcnmocaaW.PrintWords Go.Proofs.YtcokamomcnmocaaW.PrintLast Go.Proofs.YtcokamomcnmocaaW.PrintMore
attribute [local go_sem high] xor_u64 xor_u32 eqErr25 neErr25 eqErrL25 neErrL25
attribute [local go_sem] max2_int min2_int max_two min_two max_three min_three max_four min_four   -- for this text's walks alone
set_option linter.unusedVariables false
set_option linter.unusedSimpArgs false

/-! ### vernierlaw08_OrderValues: function 3 -/
mutual
def vernierlaw08_OrderValues.j0 : Nat → Int → Int → Bool → Int → Bool → Int → Int → Int → Bool → Int → Int → Option (Bool)
  | 0, _, _, _, _, _, _, _, _, _, _, _ => none
  | k + 1, x8, x17, x87, x206000, x206001, x206002, x206003, x211000, x211001, x211002, x211003 => if x87 = true then (some false) else (if x206000 = 2 then (vernierlaw08_OrderValues.j1 k x8 x17 (x211000 == 2) x206000 x206001 x206002 x206003 x211000 x211001 x211002 x211003) else (vernierlaw08_OrderValues.j1 k x8 x17 false x206000 x206001 x206002 x206003 x211000 x211001 x211002 x211003))
def vernierlaw08_OrderValues.j1 : Nat → Int → Int → Bool → Int → Bool → Int → Int → Int → Bool → Int → Int → Option (Bool)
  | 0, _, _, _, _, _, _, _, _, _, _, _ => none
  | k + 1, x8, x17, x88, x206000, x206001, x206002, x206003, x211000, x211001, x211002, x211003 => if x88 = true then (some (x8 == 0)) else (if x206000 = 2 then (some (x8 == (-1))) else (if x211000 = 2 then (some (x8 == 1)) else ((vernierref07_Of.f x206000 x206001 x206002 x206003).bind fun bt221 => ((vernierref07_Of.f x211000 x211001 x211002 x211003).bind fun bt229 => ((vernierref07_Cmp.f k bt221.1 bt221.2.1 bt221.2.2.1 bt221.2.2.2.1 bt221.2.2.2.2.1 bt221.2.2.2.2.2.1 bt229.1 bt229.2.1 bt229.2.2.1 bt229.2.2.2.1 bt229.2.2.2.2.1 bt229.2.2.2.2.2.1).bind fun t237 => (if x8 = t237 then (some (x17 == x8)) else (some false)))))))
end
def vernierlaw08_OrderValues.f (k : Nat) (a0 : Int) (a1 : Int) (a2 : Int) : Option (Bool) := (vernierlaw08_up.f).bind fun t196 => ((order_Cmp.f a0 a1 a2).bind fun bt197 => ((vernierref05_Is.f a0).bind fun t199 => (if t199 = true then ((vernierref06_Decode.f k a0 a1).bind fun bt201 => ((vernierref06_Decode.f k a0 a2).bind fun bt206 => ((order_Neg.f a0 a1).bind fun bt211 => ((order_Neg.f a0 a2).bind fun bt213 => ((order_Cmp.f a0 bt213.1 bt211.1).bind fun bt215 => (if t196 = true then (if bt197.2.isNone = true then (if bt211.2.isNone = true then (if bt213.2.isNone = true then (if bt215.2.isNone = true then (vernierlaw08_OrderValues.j0 k bt197.1 bt215.1 false bt201.1 bt201.2.1 bt201.2.2.1 bt201.2.2.2 bt206.1 bt206.2.1 bt206.2.2.1 bt206.2.2.2) else (vernierlaw08_OrderValues.j0 k bt197.1 bt215.1 true bt201.1 bt201.2.1 bt201.2.2.1 bt201.2.2.2 bt206.1 bt206.2.1 bt206.2.2.1 bt206.2.2.2)) else (vernierlaw08_OrderValues.j0 k bt197.1 bt215.1 true bt201.1 bt201.2.1 bt201.2.2.1 bt201.2.2.2 bt206.1 bt206.2.1 bt206.2.2.1 bt206.2.2.2)) else (vernierlaw08_OrderValues.j0 k bt197.1 bt215.1 true bt201.1 bt201.2.1 bt201.2.2.1 bt201.2.2.2 bt206.1 bt206.2.1 bt206.2.2.1 bt206.2.2.2)) else (vernierlaw08_OrderValues.j0 k bt197.1 bt215.1 true bt201.1 bt201.2.1 bt201.2.2.1 bt201.2.2.2 bt206.1 bt206.2.1 bt206.2.2.1 bt206.2.2.2)) else (vernierlaw08_OrderValues.j0 k bt197.1 bt215.1 true bt201.1 bt201.2.1 bt201.2.2.1 bt201.2.2.2 bt206.1 bt206.2.1 bt206.2.2.1 bt206.2.2.2))))))) else (if t196 = true then (if bt197.2.isNone = true then (some false) else (if (bt197.2.getD 0) = 2 then (some (bt197.1 == 0)) else (some false))) else (some false)))))
theorem vernierlaw08_OrderValues.mono_l : ∀ k, (∀ y0 y1 y2 y3 y4 y5 y6 y7 y8 y9 y10, LeO (vernierlaw08_OrderValues.j0 k y0 y1 y2 y3 y4 y5 y6 y7 y8 y9 y10) (vernierlaw08_OrderValues.j0 (k + 1) y0 y1 y2 y3 y4 y5 y6 y7 y8 y9 y10)) ∧ (∀ y0 y1 y2 y3 y4 y5 y6 y7 y8 y9 y10, LeO (vernierlaw08_OrderValues.j1 k y0 y1 y2 y3 y4 y5 y6 y7 y8 y9 y10) (vernierlaw08_OrderValues.j1 (k + 1) y0 y1 y2 y3 y4 y5 y6 y7 y8 y9 y10))
  | 0 => ⟨fun _ _ _ _ _ _ _ _ _ _ _ r h => by simp [vernierlaw08_OrderValues.j0] at h, fun _ _ _ _ _ _ _ _ _ _ _ r h => by simp [vernierlaw08_OrderValues.j1] at h⟩
  | k + 1 => by
    obtain ⟨ih0, ih1⟩ := vernierlaw08_OrderValues.mono_l k
    refine ⟨?_, ?_⟩
    · intro y0 y1 y2 y3 y4 y5 y6 y7 y8 y9 y10
      unfold vernierlaw08_OrderValues.j0
      repeat' first
      | (with_reducible exact ih0 _ _ _ _ _ _ _ _ _ _ _)
      | (with_reducible exact ih1 _ _ _ _ _ _ _ _ _ _ _)
      | (with_reducible exact vernierref06_Decode.mono _ _ _)
      | (with_reducible exact vernierref07_Cmp.mono _ _ _ _ _ _ _ _ _ _ _ _ _)
      | (with_reducible exact LeO.refl _)
      | (with_reducible exact LeO.none _)
      | (with_reducible refine LeO.ite ?_ ?_)
      | (with_reducible refine LeO.bind ?_ (fun _ => ?_))
      | exact ih0 _ _ _ _ _ _ _ _ _ _ _
      | exact ih1 _ _ _ _ _ _ _ _ _ _ _
      | exact vernierref06_Decode.mono _ _ _
      | exact vernierref07_Cmp.mono _ _ _ _ _ _ _ _ _ _ _ _ _
      | exact LeO.none _
      | refine LeO.ite ?_ ?_
      | refine LeO.bind ?_ (fun _ => ?_)
    · intro y0 y1 y2 y3 y4 y5 y6 y7 y8 y9 y10
      unfold vernierlaw08_OrderValues.j1
      repeat' first
      | (with_reducible exact ih0 _ _ _ _ _ _ _ _ _ _ _)
      | (with_reducible exact ih1 _ _ _ _ _ _ _ _ _ _ _)
      | (with_reducible exact vernierref06_Decode.mono _ _ _)
      | (with_reducible exact vernierref07_Cmp.mono _ _ _ _ _ _ _ _ _ _ _ _ _)
      | (with_reducible exact LeO.refl _)
      | (with_reducible exact LeO.none _)
      | (with_reducible refine LeO.ite ?_ ?_)
      | (with_reducible refine LeO.bind ?_ (fun _ => ?_))
      | exact ih0 _ _ _ _ _ _ _ _ _ _ _
      | exact ih1 _ _ _ _ _ _ _ _ _ _ _
      | exact vernierref06_Decode.mono _ _ _
      | exact vernierref07_Cmp.mono _ _ _ _ _ _ _ _ _ _ _ _ _
      | exact LeO.none _
      | refine LeO.ite ?_ ?_
      | refine LeO.bind ?_ (fun _ => ?_)
theorem vernierlaw08_OrderValues.mono : ∀ a0 a1 a2 k, LeO (vernierlaw08_OrderValues.f k a0 a1 a2) (vernierlaw08_OrderValues.f (k + 1) a0 a1 a2) := by
  intro a0 a1 a2 k
  obtain ⟨ih0, ih1⟩ := vernierlaw08_OrderValues.mono_l k
  unfold vernierlaw08_OrderValues.f
  repeat' first
      | (with_reducible exact ih0 _ _ _ _ _ _ _ _ _ _ _)
      | (with_reducible exact ih1 _ _ _ _ _ _ _ _ _ _ _)
      | (with_reducible exact vernierref06_Decode.mono _ _ _)
      | (with_reducible exact vernierref07_Cmp.mono _ _ _ _ _ _ _ _ _ _ _ _ _)
      | (with_reducible exact LeO.refl _)
      | (with_reducible exact LeO.none _)
      | (with_reducible refine LeO.ite ?_ ?_)
      | (with_reducible refine LeO.bind ?_ (fun _ => ?_))
      | exact ih0 _ _ _ _ _ _ _ _ _ _ _
      | exact ih1 _ _ _ _ _ _ _ _ _ _ _
      | exact vernierref06_Decode.mono _ _ _
      | exact vernierref07_Cmp.mono _ _ _ _ _ _ _ _ _ _ _ _ _
      | exact LeO.none _
      | refine LeO.ite ?_ ?_
      | refine LeO.bind ?_ (fun _ => ?_)
set_option maxHeartbeats 8000000 in
set_option maxRecDepth 100000 in
theorem vernierlaw08_OrderValues.calls (k : Nat) (a0 : Int) (a1 : Int) (a2 : Int) (r : Bool) (w : World) (h : vernierlaw08_OrderValues.f k a0 a1 a2 = some r) :
    Calls Try.prog 3 #[.int .i64 a0, .int .u64 a1, .int .u64 a2] w fun e w' => e = .returned (.bool r) ∧ Below w.heap.size w w' := by
  have hu31 := Try.underlying31
  have hu36 := Try.underlying36
  have hu25 := Try.underlying25
  have hu29 := Try.underlying29
  have HB := Aside0.mk (Below.refl w.heap.size w)
  have H : ((vernierlaw08_up.f).bind fun t196 => ((order_Cmp.f a0 a1 a2).bind fun bt197 => ((vernierref05_Is.f a0).bind fun t199 => (if t199 = true then ((vernierref06_Decode.f k a0 a1).bind fun bt201 => ((vernierref06_Decode.f k a0 a2).bind fun bt206 => ((order_Neg.f a0 a1).bind fun bt211 => ((order_Neg.f a0 a2).bind fun bt213 => ((order_Cmp.f a0 bt213.1 bt211.1).bind fun bt215 => (if t196 = true then (if bt197.2.isNone = true then (if bt211.2.isNone = true then (if bt213.2.isNone = true then (if bt215.2.isNone = true then (vernierlaw08_OrderValues.j0 k bt197.1 bt215.1 false bt201.1 bt201.2.1 bt201.2.2.1 bt201.2.2.2 bt206.1 bt206.2.1 bt206.2.2.1 bt206.2.2.2) else (vernierlaw08_OrderValues.j0 k bt197.1 bt215.1 true bt201.1 bt201.2.1 bt201.2.2.1 bt201.2.2.2 bt206.1 bt206.2.1 bt206.2.2.1 bt206.2.2.2)) else (vernierlaw08_OrderValues.j0 k bt197.1 bt215.1 true bt201.1 bt201.2.1 bt201.2.2.1 bt201.2.2.2 bt206.1 bt206.2.1 bt206.2.2.1 bt206.2.2.2)) else (vernierlaw08_OrderValues.j0 k bt197.1 bt215.1 true bt201.1 bt201.2.1 bt201.2.2.1 bt201.2.2.2 bt206.1 bt206.2.1 bt206.2.2.1 bt206.2.2.2)) else (vernierlaw08_OrderValues.j0 k bt197.1 bt215.1 true bt201.1 bt201.2.1 bt201.2.2.1 bt201.2.2.2 bt206.1 bt206.2.1 bt206.2.2.1 bt206.2.2.2)) else (vernierlaw08_OrderValues.j0 k bt197.1 bt215.1 true bt201.1 bt201.2.1 bt201.2.2.1 bt201.2.2.2 bt206.1 bt206.2.1 bt206.2.2.1 bt206.2.2.2))))))) else (if t196 = true then (if bt197.2.isNone = true then (some false) else (if (bt197.2.getD 0) = 2 then (some (bt197.1 == 0)) else (some false))) else (some false)))))) = some r := h
  clear h
  replace H := Option.bind_eq_some_iff.mp H
  obtain ⟨t196, A40, H⟩ := H
  replace H : ((order_Cmp.f a0 a1 a2).bind fun bt197 => ((vernierref05_Is.f a0).bind fun t199 => (if t199 = true then ((vernierref06_Decode.f k a0 a1).bind fun bt201 => ((vernierref06_Decode.f k a0 a2).bind fun bt206 => ((order_Neg.f a0 a1).bind fun bt211 => ((order_Neg.f a0 a2).bind fun bt213 => ((order_Cmp.f a0 bt213.1 bt211.1).bind fun bt215 => (if t196 = true then (if bt197.2.isNone = true then (if bt211.2.isNone = true then (if bt213.2.isNone = true then (if bt215.2.isNone = true then (vernierlaw08_OrderValues.j0 k bt197.1 bt215.1 false bt201.1 bt201.2.1 bt201.2.2.1 bt201.2.2.2 bt206.1 bt206.2.1 bt206.2.2.1 bt206.2.2.2) else (vernierlaw08_OrderValues.j0 k bt197.1 bt215.1 true bt201.1 bt201.2.1 bt201.2.2.1 bt201.2.2.2 bt206.1 bt206.2.1 bt206.2.2.1 bt206.2.2.2)) else (vernierlaw08_OrderValues.j0 k bt197.1 bt215.1 true bt201.1 bt201.2.1 bt201.2.2.1 bt201.2.2.2 bt206.1 bt206.2.1 bt206.2.2.1 bt206.2.2.2)) else (vernierlaw08_OrderValues.j0 k bt197.1 bt215.1 true bt201.1 bt201.2.1 bt201.2.2.1 bt201.2.2.2 bt206.1 bt206.2.1 bt206.2.2.1 bt206.2.2.2)) else (vernierlaw08_OrderValues.j0 k bt197.1 bt215.1 true bt201.1 bt201.2.1 bt201.2.2.1 bt201.2.2.2 bt206.1 bt206.2.1 bt206.2.2.1 bt206.2.2.2)) else (vernierlaw08_OrderValues.j0 k bt197.1 bt215.1 true bt201.1 bt201.2.1 bt201.2.2.1 bt201.2.2.2 bt206.1 bt206.2.1 bt206.2.2.1 bt206.2.2.2))))))) else (if t196 = true then (if bt197.2.isNone = true then (some false) else (if (bt197.2.getD 0) = 2 then (some (bt197.1 == 0)) else (some false))) else (some false))))) = some r := H
  have A4 := Aside0.mk A40
  clear A40
  replace H := Option.bind_eq_some_iff.mp H
  obtain ⟨⟨t197, t198⟩, A50, H⟩ := H
  replace H : ((vernierref05_Is.f a0).bind fun t199 => (if t199 = true then ((vernierref06_Decode.f k a0 a1).bind fun bt201 => ((vernierref06_Decode.f k a0 a2).bind fun bt206 => ((order_Neg.f a0 a1).bind fun bt211 => ((order_Neg.f a0 a2).bind fun bt213 => ((order_Cmp.f a0 bt213.1 bt211.1).bind fun bt215 => (if t196 = true then (if t198.isNone = true then (if bt211.2.isNone = true then (if bt213.2.isNone = true then (if bt215.2.isNone = true then (vernierlaw08_OrderValues.j0 k t197 bt215.1 false bt201.1 bt201.2.1 bt201.2.2.1 bt201.2.2.2 bt206.1 bt206.2.1 bt206.2.2.1 bt206.2.2.2) else (vernierlaw08_OrderValues.j0 k t197 bt215.1 true bt201.1 bt201.2.1 bt201.2.2.1 bt201.2.2.2 bt206.1 bt206.2.1 bt206.2.2.1 bt206.2.2.2)) else (vernierlaw08_OrderValues.j0 k t197 bt215.1 true bt201.1 bt201.2.1 bt201.2.2.1 bt201.2.2.2 bt206.1 bt206.2.1 bt206.2.2.1 bt206.2.2.2)) else (vernierlaw08_OrderValues.j0 k t197 bt215.1 true bt201.1 bt201.2.1 bt201.2.2.1 bt201.2.2.2 bt206.1 bt206.2.1 bt206.2.2.1 bt206.2.2.2)) else (vernierlaw08_OrderValues.j0 k t197 bt215.1 true bt201.1 bt201.2.1 bt201.2.2.1 bt201.2.2.2 bt206.1 bt206.2.1 bt206.2.2.1 bt206.2.2.2)) else (vernierlaw08_OrderValues.j0 k t197 bt215.1 true bt201.1 bt201.2.1 bt201.2.2.1 bt201.2.2.2 bt206.1 bt206.2.1 bt206.2.2.1 bt206.2.2.2))))))) else (if t196 = true then (if t198.isNone = true then (some false) else (if (t198.getD 0) = 2 then (some (t197 == 0)) else (some false))) else (some false)))) = some r := H
  have A5 := Aside0.mk A50
  clear A50
  replace H := Option.bind_eq_some_iff.mp H
  obtain ⟨t199, A60, H⟩ := H
  replace H : (if t199 = true then ((vernierref06_Decode.f k a0 a1).bind fun bt201 => ((vernierref06_Decode.f k a0 a2).bind fun bt206 => ((order_Neg.f a0 a1).bind fun bt211 => ((order_Neg.f a0 a2).bind fun bt213 => ((order_Cmp.f a0 bt213.1 bt211.1).bind fun bt215 => (if t196 = true then (if t198.isNone = true then (if bt211.2.isNone = true then (if bt213.2.isNone = true then (if bt215.2.isNone = true then (vernierlaw08_OrderValues.j0 k t197 bt215.1 false bt201.1 bt201.2.1 bt201.2.2.1 bt201.2.2.2 bt206.1 bt206.2.1 bt206.2.2.1 bt206.2.2.2) else (vernierlaw08_OrderValues.j0 k t197 bt215.1 true bt201.1 bt201.2.1 bt201.2.2.1 bt201.2.2.2 bt206.1 bt206.2.1 bt206.2.2.1 bt206.2.2.2)) else (vernierlaw08_OrderValues.j0 k t197 bt215.1 true bt201.1 bt201.2.1 bt201.2.2.1 bt201.2.2.2 bt206.1 bt206.2.1 bt206.2.2.1 bt206.2.2.2)) else (vernierlaw08_OrderValues.j0 k t197 bt215.1 true bt201.1 bt201.2.1 bt201.2.2.1 bt201.2.2.2 bt206.1 bt206.2.1 bt206.2.2.1 bt206.2.2.2)) else (vernierlaw08_OrderValues.j0 k t197 bt215.1 true bt201.1 bt201.2.1 bt201.2.2.1 bt201.2.2.2 bt206.1 bt206.2.1 bt206.2.2.1 bt206.2.2.2)) else (vernierlaw08_OrderValues.j0 k t197 bt215.1 true bt201.1 bt201.2.1 bt201.2.2.1 bt201.2.2.2 bt206.1 bt206.2.1 bt206.2.2.1 bt206.2.2.2))))))) else (if t196 = true then (if t198.isNone = true then (some false) else (if (t198.getD 0) = 2 then (some (t197 == 0)) else (some false))) else (some false))) = some r := H
  have A6 := Aside0.mk A60
  clear A60
  by_cases c7 : t199 = true
  · subst c7
    have H1 : ((vernierref06_Decode.f k a0 a1).bind fun bt201 => ((vernierref06_Decode.f k a0 a2).bind fun bt206 => ((order_Neg.f a0 a1).bind fun bt211 => ((order_Neg.f a0 a2).bind fun bt213 => ((order_Cmp.f a0 bt213.1 bt211.1).bind fun bt215 => (if t196 = true then (if t198.isNone = true then (if bt211.2.isNone = true then (if bt213.2.isNone = true then (if bt215.2.isNone = true then (vernierlaw08_OrderValues.j0 k t197 bt215.1 false bt201.1 bt201.2.1 bt201.2.2.1 bt201.2.2.2 bt206.1 bt206.2.1 bt206.2.2.1 bt206.2.2.2) else (vernierlaw08_OrderValues.j0 k t197 bt215.1 true bt201.1 bt201.2.1 bt201.2.2.1 bt201.2.2.2 bt206.1 bt206.2.1 bt206.2.2.1 bt206.2.2.2)) else (vernierlaw08_OrderValues.j0 k t197 bt215.1 true bt201.1 bt201.2.1 bt201.2.2.1 bt201.2.2.2 bt206.1 bt206.2.1 bt206.2.2.1 bt206.2.2.2)) else (vernierlaw08_OrderValues.j0 k t197 bt215.1 true bt201.1 bt201.2.1 bt201.2.2.1 bt201.2.2.2 bt206.1 bt206.2.1 bt206.2.2.1 bt206.2.2.2)) else (vernierlaw08_OrderValues.j0 k t197 bt215.1 true bt201.1 bt201.2.1 bt201.2.2.1 bt201.2.2.2 bt206.1 bt206.2.1 bt206.2.2.1 bt206.2.2.2)) else (vernierlaw08_OrderValues.j0 k t197 bt215.1 true bt201.1 bt201.2.1 bt201.2.2.1 bt201.2.2.2 bt206.1 bt206.2.1 bt206.2.2.1 bt206.2.2.2))))))) = some r := by rw [if_pos rfl] at H; exact H
    clear H
    have H := H1
    clear H1
    replace H := Option.bind_eq_some_iff.mp H
    obtain ⟨⟨t201, t202, t203, t204⟩, A80, H⟩ := H
    replace H : ((vernierref06_Decode.f k a0 a2).bind fun bt206 => ((order_Neg.f a0 a1).bind fun bt211 => ((order_Neg.f a0 a2).bind fun bt213 => ((order_Cmp.f a0 bt213.1 bt211.1).bind fun bt215 => (if t196 = true then (if t198.isNone = true then (if bt211.2.isNone = true then (if bt213.2.isNone = true then (if bt215.2.isNone = true then (vernierlaw08_OrderValues.j0 k t197 bt215.1 false t201 t202 t203 t204 bt206.1 bt206.2.1 bt206.2.2.1 bt206.2.2.2) else (vernierlaw08_OrderValues.j0 k t197 bt215.1 true t201 t202 t203 t204 bt206.1 bt206.2.1 bt206.2.2.1 bt206.2.2.2)) else (vernierlaw08_OrderValues.j0 k t197 bt215.1 true t201 t202 t203 t204 bt206.1 bt206.2.1 bt206.2.2.1 bt206.2.2.2)) else (vernierlaw08_OrderValues.j0 k t197 bt215.1 true t201 t202 t203 t204 bt206.1 bt206.2.1 bt206.2.2.1 bt206.2.2.2)) else (vernierlaw08_OrderValues.j0 k t197 bt215.1 true t201 t202 t203 t204 bt206.1 bt206.2.1 bt206.2.2.1 bt206.2.2.2)) else (vernierlaw08_OrderValues.j0 k t197 bt215.1 true t201 t202 t203 t204 bt206.1 bt206.2.1 bt206.2.2.1 bt206.2.2.2)))))) = some r := H
    have A8 := Aside0.mk A80
    clear A80
    replace H := Option.bind_eq_some_iff.mp H
    obtain ⟨⟨t206, t207, t208, t209⟩, A90, H⟩ := H
    replace H : ((order_Neg.f a0 a1).bind fun bt211 => ((order_Neg.f a0 a2).bind fun bt213 => ((order_Cmp.f a0 bt213.1 bt211.1).bind fun bt215 => (if t196 = true then (if t198.isNone = true then (if bt211.2.isNone = true then (if bt213.2.isNone = true then (if bt215.2.isNone = true then (vernierlaw08_OrderValues.j0 k t197 bt215.1 false t201 t202 t203 t204 t206 t207 t208 t209) else (vernierlaw08_OrderValues.j0 k t197 bt215.1 true t201 t202 t203 t204 t206 t207 t208 t209)) else (vernierlaw08_OrderValues.j0 k t197 bt215.1 true t201 t202 t203 t204 t206 t207 t208 t209)) else (vernierlaw08_OrderValues.j0 k t197 bt215.1 true t201 t202 t203 t204 t206 t207 t208 t209)) else (vernierlaw08_OrderValues.j0 k t197 bt215.1 true t201 t202 t203 t204 t206 t207 t208 t209)) else (vernierlaw08_OrderValues.j0 k t197 bt215.1 true t201 t202 t203 t204 t206 t207 t208 t209))))) = some r := H
    have A9 := Aside0.mk A90
    clear A90
    replace H := Option.bind_eq_some_iff.mp H
    obtain ⟨⟨t211, t212⟩, A100, H⟩ := H
    replace H : ((order_Neg.f a0 a2).bind fun bt213 => ((order_Cmp.f a0 bt213.1 t211).bind fun bt215 => (if t196 = true then (if t198.isNone = true then (if t212.isNone = true then (if bt213.2.isNone = true then (if bt215.2.isNone = true then (vernierlaw08_OrderValues.j0 k t197 bt215.1 false t201 t202 t203 t204 t206 t207 t208 t209) else (vernierlaw08_OrderValues.j0 k t197 bt215.1 true t201 t202 t203 t204 t206 t207 t208 t209)) else (vernierlaw08_OrderValues.j0 k t197 bt215.1 true t201 t202 t203 t204 t206 t207 t208 t209)) else (vernierlaw08_OrderValues.j0 k t197 bt215.1 true t201 t202 t203 t204 t206 t207 t208 t209)) else (vernierlaw08_OrderValues.j0 k t197 bt215.1 true t201 t202 t203 t204 t206 t207 t208 t209)) else (vernierlaw08_OrderValues.j0 k t197 bt215.1 true t201 t202 t203 t204 t206 t207 t208 t209)))) = some r := H
    have A10 := Aside0.mk A100
    clear A100
    replace H := Option.bind_eq_some_iff.mp H
    obtain ⟨⟨t213, t214⟩, A110, H⟩ := H
    replace H : ((order_Cmp.f a0 t213 t211).bind fun bt215 => (if t196 = true then (if t198.isNone = true then (if t212.isNone = true then (if t214.isNone = true then (if bt215.2.isNone = true then (vernierlaw08_OrderValues.j0 k t197 bt215.1 false t201 t202 t203 t204 t206 t207 t208 t209) else (vernierlaw08_OrderValues.j0 k t197 bt215.1 true t201 t202 t203 t204 t206 t207 t208 t209)) else (vernierlaw08_OrderValues.j0 k t197 bt215.1 true t201 t202 t203 t204 t206 t207 t208 t209)) else (vernierlaw08_OrderValues.j0 k t197 bt215.1 true t201 t202 t203 t204 t206 t207 t208 t209)) else (vernierlaw08_OrderValues.j0 k t197 bt215.1 true t201 t202 t203 t204 t206 t207 t208 t209)) else (vernierlaw08_OrderValues.j0 k t197 bt215.1 true t201 t202 t203 t204 t206 t207 t208 t209))) = some r := H
    have A11 := Aside0.mk A110
    clear A110
    replace H := Option.bind_eq_some_iff.mp H
    obtain ⟨⟨t215, t216⟩, A120, H⟩ := H
    replace H : (if t196 = true then (if t198.isNone = true then (if t212.isNone = true then (if t214.isNone = true then (if t216.isNone = true then (vernierlaw08_OrderValues.j0 k t197 t215 false t201 t202 t203 t204 t206 t207 t208 t209) else (vernierlaw08_OrderValues.j0 k t197 t215 true t201 t202 t203 t204 t206 t207 t208 t209)) else (vernierlaw08_OrderValues.j0 k t197 t215 true t201 t202 t203 t204 t206 t207 t208 t209)) else (vernierlaw08_OrderValues.j0 k t197 t215 true t201 t202 t203 t204 t206 t207 t208 t209)) else (vernierlaw08_OrderValues.j0 k t197 t215 true t201 t202 t203 t204 t206 t207 t208 t209)) else (vernierlaw08_OrderValues.j0 k t197 t215 true t201 t202 t203 t204 t206 t207 t208 t209)) = some r := H
    have A12 := Aside0.mk A120
    clear A120
    have HC13 := Aside0.mk H
    clear H
    go_enter Try.func3, Try.ntmps3
    go_upto_region 11 with (first | ((with_reducible refine gC (f := 4) rfl ?_); (with_reducible refine gD (N := 23) rfl ?_); refine goesY_ (some 23) Try.func4 #[] ?_; (with_reducible refine (vernierlaw08_up.calls  t196 _ A4.out).mono ?_); rintro e w14 ⟨rfl, hb⟩; refine ⟨_, rfl, ?_⟩; have n0_ := Aside0.mk (bS3 HB.out hb); clear HB; have HB := n0_; clear n0_; (try clear hb); (try clear hb2); (try clear hk); (try clear hi)) | ((with_reducible refine gC (f := 5) rfl ?_); (with_reducible refine gD (N := 28) rfl ?_); refine goesY_ (some 28) Try.func5 #[.int .i64 a0, .int .u64 a1, .int .u64 a2] ?_; (with_reducible refine (order_Cmp.calls a0 a1 a2 t197 t198 _ A5.out).mono ?_); rintro e w' ⟨rfl, ⟨nd, rfl⟩⟩; refine ⟨_, rfl, ?_⟩; (try simp only [errW_none, errW_some]); (try (rw [drewN_self w14]; generalize hq_ : World.drewN w14 _ = w14; have n0_ : Aside0 (Below w.heap.size w w14) := ⟨by rw [← hq_]; exact (by repeat (first | (with_reducible first | exact HB.out | apply pA | apply pN | apply p1) | exact HB.out))⟩; clear HB hq_; have HB := n0_; clear n0_))) | ((with_reducible refine gC (f := 6) rfl ?_); (with_reducible refine gD (N := 32) rfl ?_); refine goesY_ (some 32) Try.func6 #[.int .i64 a0] ?_; (with_reducible refine (vernierref05_Is.calls a0 true _ A6.out).mono ?_); rintro e w' ⟨rfl, ⟨nd, rfl⟩⟩; refine ⟨_, rfl, ?_⟩; (try (rw [drewN_self w14]; generalize hq_ : World.drewN w14 _ = w14; have n0_ : Aside0 (Below w.heap.size w w14) := ⟨by rw [← hq_]; exact (by repeat (first | (with_reducible first | exact HB.out | apply pA | apply pN | apply p1) | exact HB.out))⟩; clear HB hq_; have HB := n0_; clear n0_))) | ((with_reducible refine gC (f := 7) rfl ?_); (with_reducible refine gD (N := 47) rfl ?_); refine goesY_ (some 47) Try.func7 #[.int .i64 a0, .int .u64 a1] ?_; (with_reducible refine (vernierref06_Decode.calls k a0 a1 t201 t202 t203 t204 _ A8.out).mono ?_); rintro e w15 ⟨rfl, hb⟩; refine ⟨_, rfl, ?_⟩; have n0_ := Aside0.mk (bS3 HB.out hb); clear HB; have HB := n0_; clear n0_; (try clear hb); (try clear hb2); (try clear hk); (try clear hi)) | ((with_reducible refine gD (N := 11) rfl ?_); refine bE3 11 #[.int .i64 0, .bool false, .int .i64 0, .int .u64 0] 31 ?hr ?_; (case hr => first | (go_simp; done) | (go_simp; rfl)); intro gb205 hg w16 hbox hb; have n0_ := Aside0.mk (bS3 HB.out hb); have n1_ := Aside0.mk (hbox); have n2_ := Aside0.mk ((bZ3 hg HB.out)); have n3_ := Aside0.mk ((bZ3 hg HB.out)); clear HB; have HB := n0_; have BK205 := n1_; have GW205 := n2_; have GE205 := n3_; clear n0_ n1_ n2_ n3_; clear hb hbox hg; have hcz17_0 : w16.cell? ⟨gb205, 0, none⟩ = some (.int .i64 0) := (blk_cell BK205.out 0).trans rfl; have hcz17_1 : w16.cell? ⟨gb205, 1, none⟩ = some (.bool false) := (blk_cell BK205.out 1).trans rfl; have hcz17_2 : w16.cell? ⟨gb205, 2, none⟩ = some (.int .i64 0) := (blk_cell BK205.out 2).trans rfl; have hcz17_3 : w16.cell? ⟨gb205, 3, none⟩ = some (.int .u64 0) := (blk_cell BK205.out 3).trans rfl; have hfz17_0 := blk_frozen BK205.out 0; have hfz17_1 := blk_frozen BK205.out 1; have hfz17_2 := blk_frozen BK205.out 2; have hfz17_3 := blk_frozen BK205.out 3) | ((with_reducible refine gC (f := 7) rfl ?_); (with_reducible refine gD (N := 50) rfl ?_); refine goesY_ (some 50) Try.func7 #[.int .i64 a0, .int .u64 a2] ?_; (with_reducible refine (vernierref06_Decode.calls k a0 a2 t206 t207 t208 t209 _ A9.out).mono ?_); rintro e w18 ⟨rfl, hb⟩; refine ⟨_, rfl, ?_⟩; have n0_ := Aside0.mk (bB (g := gb205) (o := .cells #[.int .i64 t201, .bool t202, .int .i64 t203, .int .u64 t204] 31 (0, 0)) (by (with_reducible repeat (first | refine bN ?_ _ | refine bD ?_ | refine bA ?_ _)); refine blk_put (cs := #[.int .i64 t201, .bool t202, .int .i64 t203, .int .u64 0]) ?_ 3 _ rfl; (with_reducible repeat (first | refine bN ?_ _ | refine bD ?_ | refine bA ?_ _)); refine blk_put (cs := #[.int .i64 t201, .bool t202, .int .i64 0, .int .u64 0]) ?_ 2 _ rfl; (with_reducible repeat (first | refine bN ?_ _ | refine bD ?_ | refine bA ?_ _)); refine blk_put (cs := #[.int .i64 t201, .bool false, .int .i64 0, .int .u64 0]) ?_ 1 _ rfl; (with_reducible repeat (first | refine bN ?_ _ | refine bD ?_ | refine bA ?_ _)); refine blk_put (cs := #[.int .i64 0, .bool false, .int .i64 0, .int .u64 0]) ?_ 0 _ rfl; (with_reducible repeat (first | refine bN ?_ _ | refine bD ?_ | refine bA ?_ _)); exact BK205.out) hb); have n1_ := Aside0.mk (bS3 HB.out hb); clear BK205; clear HB; have BK205 := n0_; have HB := n1_; clear n0_ n1_; (try clear hb); (try clear hb2); (try clear hk); (try clear hi)) | ((with_reducible refine gD (N := 12) rfl ?_); refine bE3 12 #[.int .i64 0, .bool false, .int .i64 0, .int .u64 0] 31 ?hr ?_; (case hr => first | (go_simp; done) | (go_simp; rfl)); intro gb210 hg w19 hbox hb; have n0_ := Aside0.mk (bB3 BK205.out hb); have n1_ := Aside0.mk (bS3 HB.out hb); have n2_ := Aside0.mk (hbox); have n3_ := Aside0.mk ((bZ3 hg HB.out)); have n4_ := Aside0.mk ((bZ3 hg HB.out)); have n5_ := Aside0.mk ((bL3 hg BK205.out)); have n6_ := Aside0.mk ((bG3 hg BK205.out)); clear BK205; clear HB; have BK205 := n0_; have HB := n1_; have BK210 := n2_; have GW210 := n3_; have GE210 := n4_; have NB205_210 := n5_; have NB210_205 := n6_; clear n0_ n1_ n2_ n3_ n4_ n5_ n6_; clear hb hbox hg; have hnb20 := NB210_205.out; have hnc20 := NB205_210.out; have hcz21_0 : w19.cell? ⟨gb210, 0, none⟩ = some (.int .i64 0) := (blk_cell BK210.out 0).trans rfl; have hcz21_1 : w19.cell? ⟨gb210, 1, none⟩ = some (.bool false) := (blk_cell BK210.out 1).trans rfl; have hcz21_2 : w19.cell? ⟨gb210, 2, none⟩ = some (.int .i64 0) := (blk_cell BK210.out 2).trans rfl; have hcz21_3 : w19.cell? ⟨gb210, 3, none⟩ = some (.int .u64 0) := (blk_cell BK210.out 3).trans rfl; have hfz21_0 := blk_frozen BK210.out 0; have hfz21_1 := blk_frozen BK210.out 1; have hfz21_2 := blk_frozen BK210.out 2; have hfz21_3 := blk_frozen BK210.out 3) | ((with_reducible refine gC (f := 8) rfl ?_); (with_reducible refine gD (N := 54) rfl ?_); refine goesY_ (some 54) Try.func8 #[.int .i64 a0, .int .u64 a1] ?_; (with_reducible refine (order_Neg.calls a0 a1 t211 t212 _ A10.out).mono ?_); rintro e w' ⟨rfl, ⟨nd, rfl⟩⟩; refine ⟨_, rfl, ?_⟩; (try simp only [errW_none, errW_some])) | ((with_reducible refine gC (f := 8) rfl ?_); (with_reducible refine gD (N := 60) rfl ?_); refine goesY_ (some 60) Try.func8 #[.int .i64 a0, .int .u64 a2] ?_; (with_reducible refine (order_Neg.calls a0 a2 t213 t214 _ A11.out).mono ?_); rintro e w' ⟨rfl, ⟨nd, rfl⟩⟩; refine ⟨_, rfl, ?_⟩; (try simp only [errW_none, errW_some])) | ((with_reducible refine gC (f := 5) rfl ?_); (with_reducible refine gD (N := 67) rfl ?_); refine goesY_ (some 67) Try.func5 #[.int .i64 a0, .int .u64 t213, .int .u64 t211] ?_; (with_reducible refine (order_Cmp.calls a0 t213 t211 t215 t216 _ A12.out).mono ?_); rintro e w' ⟨rfl, ⟨nd, rfl⟩⟩; refine ⟨_, rfl, ?_⟩; (try simp only [errW_none, errW_some])))
    (try simp only [Act.put, List.setIfInBounds_toArray, List.set_cons_zero, List.set_cons_succ])
    go_cut [87] (fun v87 wc => ∃ (kq : Nat) (x87_12 : Bool), v87 = .bool x87_12 ∧ Aside0 (vernierlaw08_OrderValues.j0 kq t197 t215 x87_12 t201 t202 t203 t204 t206 t207 t208 t209 = some r) ∧ Aside0 (kq ≤ k) ∧ Aside0 (wc.heap[gb205]? = some (.cells #[.int .i64 t201, .bool t202, .int .i64 t203, .int .u64 t204] 31 (0, 0))) ∧ Aside0 (wc.heap[gb210]? = some (.cells #[.int .i64 t206, .bool t207, .int .i64 t208, .int .u64 t209] 31 (0, 0))) ∧ Aside0 (Below w.heap.size w wc))
    case first =>
      have H := HC13.out
      clear HC13
      by_cases c22 : t196 = true
      · subst c22
        have H1 : (if t198.isNone = true then (if t212.isNone = true then (if t214.isNone = true then (if t216.isNone = true then (vernierlaw08_OrderValues.j0 k t197 t215 false t201 t202 t203 t204 t206 t207 t208 t209) else (vernierlaw08_OrderValues.j0 k t197 t215 true t201 t202 t203 t204 t206 t207 t208 t209)) else (vernierlaw08_OrderValues.j0 k t197 t215 true t201 t202 t203 t204 t206 t207 t208 t209)) else (vernierlaw08_OrderValues.j0 k t197 t215 true t201 t202 t203 t204 t206 t207 t208 t209)) else (vernierlaw08_OrderValues.j0 k t197 t215 true t201 t202 t203 t204 t206 t207 t208 t209)) = some r := by rw [if_pos rfl] at H; exact H
        clear H
        have H := H1
        clear H1
        rcases t198 with _ | q217
        · have H1 : (if t212.isNone = true then (if t214.isNone = true then (if t216.isNone = true then (vernierlaw08_OrderValues.j0 k t197 t215 false t201 t202 t203 t204 t206 t207 t208 t209) else (vernierlaw08_OrderValues.j0 k t197 t215 true t201 t202 t203 t204 t206 t207 t208 t209)) else (vernierlaw08_OrderValues.j0 k t197 t215 true t201 t202 t203 t204 t206 t207 t208 t209)) else (vernierlaw08_OrderValues.j0 k t197 t215 true t201 t202 t203 t204 t206 t207 t208 t209)) = some r := by rw [if_pos (show (none : Option Int).isNone = true by rfl)] at H; exact H
          clear H
          have H := H1
          clear H1
          try simp only [errW_none, errW_some]
          rcases t212 with _ | q218
          · have H1 : (if t214.isNone = true then (if t216.isNone = true then (vernierlaw08_OrderValues.j0 k t197 t215 false t201 t202 t203 t204 t206 t207 t208 t209) else (vernierlaw08_OrderValues.j0 k t197 t215 true t201 t202 t203 t204 t206 t207 t208 t209)) else (vernierlaw08_OrderValues.j0 k t197 t215 true t201 t202 t203 t204 t206 t207 t208 t209)) = some r := by rw [if_pos (show (none : Option Int).isNone = true by rfl)] at H; exact H
            clear H
            have H := H1
            clear H1
            try simp only [errW_none, errW_some]
            rcases t214 with _ | q219
            · have H1 : (if t216.isNone = true then (vernierlaw08_OrderValues.j0 k t197 t215 false t201 t202 t203 t204 t206 t207 t208 t209) else (vernierlaw08_OrderValues.j0 k t197 t215 true t201 t202 t203 t204 t206 t207 t208 t209)) = some r := by rw [if_pos (show (none : Option Int).isNone = true by rfl)] at H; exact H
              clear H
              have H := H1
              clear H1
              try simp only [errW_none, errW_some]
              rcases t216 with _ | q220
              · have H1 : (vernierlaw08_OrderValues.j0 k t197 t215 false t201 t202 t203 t204 t206 t207 t208 t209) = some r := by rw [if_pos (show (none : Option Int).isNone = true by rfl)] at H; exact H
                clear H
                have H := H1
                clear H1
                try simp only [errW_none, errW_some]
                have H' := Aside0.mk H
                clear H
                go_wp2
                go_meet
                case rel => exact ⟨_, (false), (by first | rfl | (simp; done) | (simp [*]; done)), H', ⟨by first | omega | exact Nat.le_refl _⟩, ⟨by (with_reducible repeat (first | refine bN ?_ _ | refine bD ?_ | refine bA ?_ _)); refine blk_far ?_ NB205_210.out _; (with_reducible repeat (first | refine bN ?_ _ | refine bD ?_ | refine bA ?_ _)); refine blk_far ?_ NB205_210.out _; (with_reducible repeat (first | refine bN ?_ _ | refine bD ?_ | refine bA ?_ _)); refine blk_far ?_ NB205_210.out _; (with_reducible repeat (first | refine bN ?_ _ | refine bD ?_ | refine bA ?_ _)); refine blk_far ?_ NB205_210.out _; (with_reducible repeat (first | refine bN ?_ _ | refine bD ?_ | refine bA ?_ _)); exact BK205.out⟩, ⟨by (with_reducible repeat (first | refine bN ?_ _ | refine bD ?_ | refine bA ?_ _)); refine blk_put (cs := #[.int .i64 t206, .bool t207, .int .i64 t208, .int .u64 0]) ?_ 3 _ rfl; (with_reducible repeat (first | refine bN ?_ _ | refine bD ?_ | refine bA ?_ _)); refine blk_put (cs := #[.int .i64 t206, .bool t207, .int .i64 0, .int .u64 0]) ?_ 2 _ rfl; (with_reducible repeat (first | refine bN ?_ _ | refine bD ?_ | refine bA ?_ _)); refine blk_put (cs := #[.int .i64 t206, .bool false, .int .i64 0, .int .u64 0]) ?_ 1 _ rfl; (with_reducible repeat (first | refine bN ?_ _ | refine bD ?_ | refine bA ?_ _)); refine blk_put (cs := #[.int .i64 0, .bool false, .int .i64 0, .int .u64 0]) ?_ 0 _ rfl; (with_reducible repeat (first | refine bN ?_ _ | refine bD ?_ | refine bA ?_ _)); exact BK210.out⟩, ⟨by repeat (first | (with_reducible first | exact HB.out | apply pA | apply pN | apply p1 | refine pS ?_ GE205.out | refine pS ?_ GE210.out) | exact HB.out)⟩⟩
              · have H1 : (vernierlaw08_OrderValues.j0 k t197 t215 true t201 t202 t203 t204 t206 t207 t208 t209) = some r := by rw [if_neg (show ¬ (some q220).isNone = true by simp)] at H; exact H
                clear H
                have H := H1
                clear H1
                try simp only [errW_none, errW_some]
                have H' := Aside0.mk H
                clear H
                go_wp2
                go_meet
                case rel => exact ⟨_, (true), (by first | rfl | (simp; done) | (simp [*]; done)), H', ⟨by first | omega | exact Nat.le_refl _⟩, ⟨by (with_reducible repeat (first | refine bN ?_ _ | refine bD ?_ | refine bA ?_ _)); refine blk_far ?_ NB205_210.out _; (with_reducible repeat (first | refine bN ?_ _ | refine bD ?_ | refine bA ?_ _)); refine blk_far ?_ NB205_210.out _; (with_reducible repeat (first | refine bN ?_ _ | refine bD ?_ | refine bA ?_ _)); refine blk_far ?_ NB205_210.out _; (with_reducible repeat (first | refine bN ?_ _ | refine bD ?_ | refine bA ?_ _)); refine blk_far ?_ NB205_210.out _; (with_reducible repeat (first | refine bN ?_ _ | refine bD ?_ | refine bA ?_ _)); exact BK205.out⟩, ⟨by (with_reducible repeat (first | refine bN ?_ _ | refine bD ?_ | refine bA ?_ _)); refine blk_put (cs := #[.int .i64 t206, .bool t207, .int .i64 t208, .int .u64 0]) ?_ 3 _ rfl; (with_reducible repeat (first | refine bN ?_ _ | refine bD ?_ | refine bA ?_ _)); refine blk_put (cs := #[.int .i64 t206, .bool t207, .int .i64 0, .int .u64 0]) ?_ 2 _ rfl; (with_reducible repeat (first | refine bN ?_ _ | refine bD ?_ | refine bA ?_ _)); refine blk_put (cs := #[.int .i64 t206, .bool false, .int .i64 0, .int .u64 0]) ?_ 1 _ rfl; (with_reducible repeat (first | refine bN ?_ _ | refine bD ?_ | refine bA ?_ _)); refine blk_put (cs := #[.int .i64 0, .bool false, .int .i64 0, .int .u64 0]) ?_ 0 _ rfl; (with_reducible repeat (first | refine bN ?_ _ | refine bD ?_ | refine bA ?_ _)); exact BK210.out⟩, ⟨by repeat (first | (with_reducible first | exact HB.out | apply pA | apply pN | apply p1 | refine pS ?_ GE205.out | refine pS ?_ GE210.out) | exact HB.out)⟩⟩
            · have H1 : (vernierlaw08_OrderValues.j0 k t197 t215 true t201 t202 t203 t204 t206 t207 t208 t209) = some r := by rw [if_neg (show ¬ (some q219).isNone = true by simp)] at H; exact H
              clear H
              have H := H1
              clear H1
              try simp only [errW_none, errW_some]
              have H' := Aside0.mk H
              clear H
              go_wp2
              go_meet
              case rel => exact ⟨_, (true), (by first | rfl | (simp; done) | (simp [*]; done)), H', ⟨by first | omega | exact Nat.le_refl _⟩, ⟨by (with_reducible repeat (first | refine bN ?_ _ | refine bD ?_ | refine bA ?_ _)); refine blk_far ?_ NB205_210.out _; (with_reducible repeat (first | refine bN ?_ _ | refine bD ?_ | refine bA ?_ _)); refine blk_far ?_ NB205_210.out _; (with_reducible repeat (first | refine bN ?_ _ | refine bD ?_ | refine bA ?_ _)); refine blk_far ?_ NB205_210.out _; (with_reducible repeat (first | refine bN ?_ _ | refine bD ?_ | refine bA ?_ _)); refine blk_far ?_ NB205_210.out _; (with_reducible repeat (first | refine bN ?_ _ | refine bD ?_ | refine bA ?_ _)); exact BK205.out⟩, ⟨by (with_reducible repeat (first | refine bN ?_ _ | refine bD ?_ | refine bA ?_ _)); refine blk_put (cs := #[.int .i64 t206, .bool t207, .int .i64 t208, .int .u64 0]) ?_ 3 _ rfl; (with_reducible repeat (first | refine bN ?_ _ | refine bD ?_ | refine bA ?_ _)); refine blk_put (cs := #[.int .i64 t206, .bool t207, .int .i64 0, .int .u64 0]) ?_ 2 _ rfl; (with_reducible repeat (first | refine bN ?_ _ | refine bD ?_ | refine bA ?_ _)); refine blk_put (cs := #[.int .i64 t206, .bool false, .int .i64 0, .int .u64 0]) ?_ 1 _ rfl; (with_reducible repeat (first | refine bN ?_ _ | refine bD ?_ | refine bA ?_ _)); refine blk_put (cs := #[.int .i64 0, .bool false, .int .i64 0, .int .u64 0]) ?_ 0 _ rfl; (with_reducible repeat (first | refine bN ?_ _ | refine bD ?_ | refine bA ?_ _)); exact BK210.out⟩, ⟨by repeat (first | (with_reducible first | exact HB.out | apply pA | apply pN | apply p1 | refine pS ?_ GE205.out | refine pS ?_ GE210.out) | exact HB.out)⟩⟩
          · have H1 : (vernierlaw08_OrderValues.j0 k t197 t215 true t201 t202 t203 t204 t206 t207 t208 t209) = some r := by rw [if_neg (show ¬ (some q218).isNone = true by simp)] at H; exact H
            clear H
            have H := H1
            clear H1
            try simp only [errW_none, errW_some]
            have H' := Aside0.mk H
            clear H
            go_wp2
            go_meet
            case rel => exact ⟨_, (true), (by first | rfl | (simp; done) | (simp [*]; done)), H', ⟨by first | omega | exact Nat.le_refl _⟩, ⟨by (with_reducible repeat (first | refine bN ?_ _ | refine bD ?_ | refine bA ?_ _)); refine blk_far ?_ NB205_210.out _; (with_reducible repeat (first | refine bN ?_ _ | refine bD ?_ | refine bA ?_ _)); refine blk_far ?_ NB205_210.out _; (with_reducible repeat (first | refine bN ?_ _ | refine bD ?_ | refine bA ?_ _)); refine blk_far ?_ NB205_210.out _; (with_reducible repeat (first | refine bN ?_ _ | refine bD ?_ | refine bA ?_ _)); refine blk_far ?_ NB205_210.out _; (with_reducible repeat (first | refine bN ?_ _ | refine bD ?_ | refine bA ?_ _)); exact BK205.out⟩, ⟨by (with_reducible repeat (first | refine bN ?_ _ | refine bD ?_ | refine bA ?_ _)); refine blk_put (cs := #[.int .i64 t206, .bool t207, .int .i64 t208, .int .u64 0]) ?_ 3 _ rfl; (with_reducible repeat (first | refine bN ?_ _ | refine bD ?_ | refine bA ?_ _)); refine blk_put (cs := #[.int .i64 t206, .bool t207, .int .i64 0, .int .u64 0]) ?_ 2 _ rfl; (with_reducible repeat (first | refine bN ?_ _ | refine bD ?_ | refine bA ?_ _)); refine blk_put (cs := #[.int .i64 t206, .bool false, .int .i64 0, .int .u64 0]) ?_ 1 _ rfl; (with_reducible repeat (first | refine bN ?_ _ | refine bD ?_ | refine bA ?_ _)); refine blk_put (cs := #[.int .i64 0, .bool false, .int .i64 0, .int .u64 0]) ?_ 0 _ rfl; (with_reducible repeat (first | refine bN ?_ _ | refine bD ?_ | refine bA ?_ _)); exact BK210.out⟩, ⟨by repeat (first | (with_reducible first | exact HB.out | apply pA | apply pN | apply p1 | refine pS ?_ GE205.out | refine pS ?_ GE210.out) | exact HB.out)⟩⟩
        · have H1 : (vernierlaw08_OrderValues.j0 k t197 t215 true t201 t202 t203 t204 t206 t207 t208 t209) = some r := by rw [if_neg (show ¬ (some q217).isNone = true by simp)] at H; exact H
          clear H
          have H := H1
          clear H1
          try simp only [errW_none, errW_some]
          have H' := Aside0.mk H
          clear H
          go_wp2
          go_meet
          case rel => exact ⟨_, (true), (by first | rfl | (simp; done) | (simp [*]; done)), H', ⟨by first | omega | exact Nat.le_refl _⟩, ⟨by (with_reducible repeat (first | refine bN ?_ _ | refine bD ?_ | refine bA ?_ _)); refine blk_far ?_ NB205_210.out _; (with_reducible repeat (first | refine bN ?_ _ | refine bD ?_ | refine bA ?_ _)); refine blk_far ?_ NB205_210.out _; (with_reducible repeat (first | refine bN ?_ _ | refine bD ?_ | refine bA ?_ _)); refine blk_far ?_ NB205_210.out _; (with_reducible repeat (first | refine bN ?_ _ | refine bD ?_ | refine bA ?_ _)); refine blk_far ?_ NB205_210.out _; (with_reducible repeat (first | refine bN ?_ _ | refine bD ?_ | refine bA ?_ _)); exact BK205.out⟩, ⟨by (with_reducible repeat (first | refine bN ?_ _ | refine bD ?_ | refine bA ?_ _)); refine blk_put (cs := #[.int .i64 t206, .bool t207, .int .i64 t208, .int .u64 0]) ?_ 3 _ rfl; (with_reducible repeat (first | refine bN ?_ _ | refine bD ?_ | refine bA ?_ _)); refine blk_put (cs := #[.int .i64 t206, .bool t207, .int .i64 0, .int .u64 0]) ?_ 2 _ rfl; (with_reducible repeat (first | refine bN ?_ _ | refine bD ?_ | refine bA ?_ _)); refine blk_put (cs := #[.int .i64 t206, .bool false, .int .i64 0, .int .u64 0]) ?_ 1 _ rfl; (with_reducible repeat (first | refine bN ?_ _ | refine bD ?_ | refine bA ?_ _)); refine blk_put (cs := #[.int .i64 0, .bool false, .int .i64 0, .int .u64 0]) ?_ 0 _ rfl; (with_reducible repeat (first | refine bN ?_ _ | refine bD ?_ | refine bA ?_ _)); exact BK210.out⟩, ⟨by repeat (first | (with_reducible first | exact HB.out | apply pA | apply pN | apply p1 | refine pS ?_ GE205.out | refine pS ?_ GE210.out) | exact HB.out)⟩⟩
      · replace c22 := Bool.eq_false_iff.mpr c22
        subst c22
        have H1 : (vernierlaw08_OrderValues.j0 k t197 t215 true t201 t202 t203 t204 t206 t207 t208 t209) = some r := by rw [if_neg (show ¬ (false = true) by decide)] at H; exact H
        clear H
        have H := H1
        clear H1
        have H' := Aside0.mk H
        clear H
        go_wp2
        go_meet
        case rel => exact ⟨_, (true), (by first | rfl | (simp; done) | (simp [*]; done)), H', ⟨by first | omega | exact Nat.le_refl _⟩, ⟨by (with_reducible repeat (first | refine bN ?_ _ | refine bD ?_ | refine bA ?_ _)); refine blk_far ?_ NB205_210.out _; (with_reducible repeat (first | refine bN ?_ _ | refine bD ?_ | refine bA ?_ _)); refine blk_far ?_ NB205_210.out _; (with_reducible repeat (first | refine bN ?_ _ | refine bD ?_ | refine bA ?_ _)); refine blk_far ?_ NB205_210.out _; (with_reducible repeat (first | refine bN ?_ _ | refine bD ?_ | refine bA ?_ _)); refine blk_far ?_ NB205_210.out _; (with_reducible repeat (first | refine bN ?_ _ | refine bD ?_ | refine bA ?_ _)); exact BK205.out⟩, ⟨by (with_reducible repeat (first | refine bN ?_ _ | refine bD ?_ | refine bA ?_ _)); refine blk_put (cs := #[.int .i64 t206, .bool t207, .int .i64 t208, .int .u64 0]) ?_ 3 _ rfl; (with_reducible repeat (first | refine bN ?_ _ | refine bD ?_ | refine bA ?_ _)); refine blk_put (cs := #[.int .i64 t206, .bool t207, .int .i64 0, .int .u64 0]) ?_ 2 _ rfl; (with_reducible repeat (first | refine bN ?_ _ | refine bD ?_ | refine bA ?_ _)); refine blk_put (cs := #[.int .i64 t206, .bool false, .int .i64 0, .int .u64 0]) ?_ 1 _ rfl; (with_reducible repeat (first | refine bN ?_ _ | refine bD ?_ | refine bA ?_ _)); refine blk_put (cs := #[.int .i64 0, .bool false, .int .i64 0, .int .u64 0]) ?_ 0 _ rfl; (with_reducible repeat (first | refine bN ?_ _ | refine bD ?_ | refine bA ?_ _)); exact BK210.out⟩, ⟨by repeat (first | (with_reducible first | exact HB.out | apply pA | apply pN | apply p1 | refine pS ?_ GE205.out | refine pS ?_ GE210.out) | exact HB.out)⟩⟩
    case rest =>
      clear HC13
      try clear c2
      try clear p2
      try clear q2
      try clear c3
      try clear c4
      try clear c5
      try clear c6
      try clear c7
      try clear c8
      try clear c20
      try clear q21
      try clear c22
      try clear q22
      try clear hcz17_0
      try clear hcz17_1
      try clear hcz17_2
      try clear hcz17_3
      try clear hcz21_0
      try clear hcz21_1
      try clear hcz21_2
      try clear hcz21_3
      try clear hfz17_0
      try clear hfz17_1
      try clear hfz17_2
      try clear hfz17_3
      try clear hfz21_0
      try clear hfz21_1
      try clear hfz21_2
      try clear hfz21_3
      try clear q217
      try clear q218
      try clear q219
      try clear q220
      obtain ⟨kq, x87_12, rfl, HA, HJ12, BK205, BK210, HB⟩ := hcut
      cases kq with
      | zero => exact absurd HA.out (by simp [vernierlaw08_OrderValues.j0])
      | succ kj12 =>
        have H := HA.out
        clear HA
        simp only [vernierlaw08_OrderValues.j0] at H
        by_cases c23 : x87_12 = true
        · subst c23
          have H1 : (some false) = some r := by rw [if_pos rfl] at H; exact H
          clear H
          have H := H1
          clear H1
          obtain rfl := Option.some.inj H
          go_wp2
          go_ret
          exact ⟨by first | rfl | (simp [errW_none, errW_some] <;> rfl) | (simp [*, errW_none, errW_some] <;> rfl), by repeat (first | (with_reducible first | exact HB.out | apply pA | apply pN | apply p1 | refine pS ?_ GE205.out | refine pS ?_ GE210.out) | exact HB.out)⟩
        · replace c23 := Bool.eq_false_iff.mpr c23
          subst c23
          have H1 : (if t201 = 2 then (vernierlaw08_OrderValues.j1 kj12 t197 t215 (t206 == 2) t201 t202 t203 t204 t206 t207 t208 t209) else (vernierlaw08_OrderValues.j1 kj12 t197 t215 false t201 t202 t203 t204 t206 t207 t208 t209)) = some r := by rw [if_neg (show ¬ (false = true) by decide)] at H; exact H
          clear H
          have H := H1
          clear H1
          have HC24 := Aside0.mk H
          clear H
          go_upto_region 13 with (fail)
          go_cut [88] (fun v88 wc => ∃ (kq : Nat) (x88_23 : Bool), v88 = .bool x88_23 ∧ Aside0 (vernierlaw08_OrderValues.j1 kq t197 t215 x88_23 t201 t202 t203 t204 t206 t207 t208 t209 = some r) ∧ Aside0 (kq ≤ kj12) ∧ Aside0 (wc.heap[gb205]? = some (.cells #[.int .i64 t201, .bool t202, .int .i64 t203, .int .u64 t204] 31 (0, 0))) ∧ Aside0 (wc.heap[gb210]? = some (.cells #[.int .i64 t206, .bool t207, .int .i64 t208, .int .u64 t209] 31 (0, 0))) ∧ Aside0 (Below w.heap.size w wc))
          case first =>
            have H := HC24.out
            clear HC24
            by_cases c25 : t201 = 2
            · rw [if_pos c25] at H
              have c25b0 : (t201 == 2) = true := beq_iff_eq.mpr c25
              have c25b1 : (t201 != 2) = false := bne_eq_false_iff_eq.mpr c25
              clear c25
              (first | rw [c25b0] | (simp only [i64_w, i32_w]; rw [c25b0]) | skip)
              have H' := Aside0.mk H
              clear H
              have hnb26 := NB205_210.out
              have hnc26 := NB210_205.out
              have hcz27_0 : wc.cell? ⟨gb205, 0, none⟩ = some (.int .i64 t201) := (blk_cell BK205.out 0).trans rfl
              have hcz27_1 : wc.cell? ⟨gb205, 1, none⟩ = some (.bool t202) := (blk_cell BK205.out 1).trans rfl
              have hcz27_2 : wc.cell? ⟨gb205, 2, none⟩ = some (.int .i64 t203) := (blk_cell BK205.out 2).trans rfl
              have hcz27_3 : wc.cell? ⟨gb205, 3, none⟩ = some (.int .u64 t204) := (blk_cell BK205.out 3).trans rfl
              have hfz27_0 := blk_frozen BK205.out 0
              have hfz27_1 := blk_frozen BK205.out 1
              have hfz27_2 := blk_frozen BK205.out 2
              have hfz27_3 := blk_frozen BK205.out 3
              have hcz28_0 : wc.cell? ⟨gb210, 0, none⟩ = some (.int .i64 t206) := (blk_cell BK210.out 0).trans rfl
              have hcz28_1 : wc.cell? ⟨gb210, 1, none⟩ = some (.bool t207) := (blk_cell BK210.out 1).trans rfl
              have hcz28_2 : wc.cell? ⟨gb210, 2, none⟩ = some (.int .i64 t208) := (blk_cell BK210.out 2).trans rfl
              have hcz28_3 : wc.cell? ⟨gb210, 3, none⟩ = some (.int .u64 t209) := (blk_cell BK210.out 3).trans rfl
              have hfz28_0 := blk_frozen BK210.out 0
              have hfz28_1 := blk_frozen BK210.out 1
              have hfz28_2 := blk_frozen BK210.out 2
              have hfz28_3 := blk_frozen BK210.out 3
              go_wp2
              go_meet
              case rel => exact ⟨_, ((t206 == 2)), (by first | rfl | (simp; done) | (simp [*]; done)), H', ⟨by have := HJ12.out; first | omega | exact Nat.le_refl _⟩, ⟨by (with_reducible repeat (first | refine bN ?_ _ | refine bD ?_ | refine bA ?_ _)); exact BK205.out⟩, ⟨by (with_reducible repeat (first | refine bN ?_ _ | refine bD ?_ | refine bA ?_ _)); exact BK210.out⟩, ⟨by repeat (first | (with_reducible first | exact HB.out | apply pA | apply pN | apply p1 | refine pS ?_ GE205.out | refine pS ?_ GE210.out) | exact HB.out)⟩⟩
            · rw [if_neg c25] at H
              have c25b0 : (t201 == 2) = false := beq_eq_false_iff_ne.mpr c25
              have c25b1 : (t201 != 2) = true := bne_iff_ne.mpr c25
              (first | rw [c25b0] | (simp only [i64_w, i32_w]; rw [c25b0]) | skip)
              have H' := Aside0.mk H
              clear H
              have hnb29 := NB205_210.out
              have hnc29 := NB210_205.out
              have hcz30_0 : wc.cell? ⟨gb205, 0, none⟩ = some (.int .i64 t201) := (blk_cell BK205.out 0).trans rfl
              have hcz30_1 : wc.cell? ⟨gb205, 1, none⟩ = some (.bool t202) := (blk_cell BK205.out 1).trans rfl
              have hcz30_2 : wc.cell? ⟨gb205, 2, none⟩ = some (.int .i64 t203) := (blk_cell BK205.out 2).trans rfl
              have hcz30_3 : wc.cell? ⟨gb205, 3, none⟩ = some (.int .u64 t204) := (blk_cell BK205.out 3).trans rfl
              have hfz30_0 := blk_frozen BK205.out 0
              have hfz30_1 := blk_frozen BK205.out 1
              have hfz30_2 := blk_frozen BK205.out 2
              have hfz30_3 := blk_frozen BK205.out 3
              go_wp2
              go_meet
              case rel => exact ⟨_, (false), (by first | rfl | (simp; done) | (simp [*]; done)), H', ⟨by have := HJ12.out; first | omega | exact Nat.le_refl _⟩, ⟨by (with_reducible repeat (first | refine bN ?_ _ | refine bD ?_ | refine bA ?_ _)); exact BK205.out⟩, ⟨by (with_reducible repeat (first | refine bN ?_ _ | refine bD ?_ | refine bA ?_ _)); exact BK210.out⟩, ⟨by repeat (first | (with_reducible first | exact HB.out | apply pA | apply pN | apply p1 | refine pS ?_ GE205.out | refine pS ?_ GE210.out) | exact HB.out)⟩⟩
          case rest =>
            clear HC24
            try clear c2
            try clear p2
            try clear q2
            try clear c3
            try clear c4
            try clear c5
            try clear c6
            try clear c7
            try clear c8
            try clear c20
            try clear q21
            try clear c22
            try clear q22
            try clear c23
            try clear c25
            try clear c25b0
            try clear c25b1
            try clear c26
            try clear c29
            try clear hcz17_0
            try clear hcz17_1
            try clear hcz17_2
            try clear hcz17_3
            try clear hcz21_0
            try clear hcz21_1
            try clear hcz21_2
            try clear hcz21_3
            try clear hcz27_0
            try clear hcz27_1
            try clear hcz27_2
            try clear hcz27_3
            try clear hcz28_0
            try clear hcz28_1
            try clear hcz28_2
            try clear hcz28_3
            try clear hcz30_0
            try clear hcz30_1
            try clear hcz30_2
            try clear hcz30_3
            try clear hfz17_0
            try clear hfz17_1
            try clear hfz17_2
            try clear hfz17_3
            try clear hfz21_0
            try clear hfz21_1
            try clear hfz21_2
            try clear hfz21_3
            try clear hfz27_0
            try clear hfz27_1
            try clear hfz27_2
            try clear hfz27_3
            try clear hfz28_0
            try clear hfz28_1
            try clear hfz28_2
            try clear hfz28_3
            try clear hfz30_0
            try clear hfz30_1
            try clear hfz30_2
            try clear hfz30_3
            try clear p2
            try clear q2
            try clear q21
            try clear q217
            try clear q218
            try clear q219
            try clear q22
            try clear q220
            obtain ⟨kq, x88_23, rfl, HA, HJ23, BK205, BK210, HB⟩ := hcut
            cases kq with
            | zero => exact absurd HA.out (by simp [vernierlaw08_OrderValues.j1])
            | succ kj23 =>
              have H := HA.out
              clear HA
              simp only [vernierlaw08_OrderValues.j1] at H
              by_cases c31 : x88_23 = true
              · subst c31
                have H1 : (some (t197 == 0)) = some r := by rw [if_pos rfl] at H; exact H
                clear H
                have H := H1
                clear H1
                obtain rfl := Option.some.inj H
                go_wp2
                go_ret
                exact ⟨by first | rfl | (simp [errW_none, errW_some] <;> rfl) | (simp [*, errW_none, errW_some] <;> rfl), by repeat (first | (with_reducible first | exact HB.out | apply pA | apply pN | apply p1 | refine pS ?_ GE205.out | refine pS ?_ GE210.out) | exact HB.out)⟩
              · replace c31 := Bool.eq_false_iff.mpr c31
                subst c31
                have H1 : (if t201 = 2 then (some (t197 == (-1))) else (if t206 = 2 then (some (t197 == 1)) else ((vernierref07_Of.f t201 t202 t203 t204).bind fun bt221 => ((vernierref07_Of.f t206 t207 t208 t209).bind fun bt229 => ((vernierref07_Cmp.f kj23 bt221.1 bt221.2.1 bt221.2.2.1 bt221.2.2.2.1 bt221.2.2.2.2.1 bt221.2.2.2.2.2.1 bt229.1 bt229.2.1 bt229.2.2.1 bt229.2.2.2.1 bt229.2.2.2.2.1 bt229.2.2.2.2.2.1).bind fun t237 => (if t197 = t237 then (some (t215 == t197)) else (some false))))))) = some r := by rw [if_neg (show ¬ (false = true) by decide)] at H; exact H
                clear H
                have H := H1
                clear H1
                by_cases c32 : t201 = 2
                · rw [if_pos c32] at H
                  have c32b0 : (t201 == 2) = true := beq_iff_eq.mpr c32
                  have c32b1 : (t201 != 2) = false := bne_eq_false_iff_eq.mpr c32
                  clear c32
                  obtain rfl := Option.some.inj H
                  have hnb33 := NB205_210.out
                  have hnc33 := NB210_205.out
                  have hcz34_0 : wc.cell? ⟨gb205, 0, none⟩ = some (.int .i64 t201) := (blk_cell BK205.out 0).trans rfl
                  have hcz34_1 : wc.cell? ⟨gb205, 1, none⟩ = some (.bool t202) := (blk_cell BK205.out 1).trans rfl
                  have hcz34_2 : wc.cell? ⟨gb205, 2, none⟩ = some (.int .i64 t203) := (blk_cell BK205.out 2).trans rfl
                  have hcz34_3 : wc.cell? ⟨gb205, 3, none⟩ = some (.int .u64 t204) := (blk_cell BK205.out 3).trans rfl
                  have hfz34_0 := blk_frozen BK205.out 0
                  have hfz34_1 := blk_frozen BK205.out 1
                  have hfz34_2 := blk_frozen BK205.out 2
                  have hfz34_3 := blk_frozen BK205.out 3
                  go_wp2
                  go_ret
                  exact ⟨by first | rfl | (simp [errW_none, errW_some] <;> rfl) | (simp [*, errW_none, errW_some] <;> rfl), by repeat (first | (with_reducible first | exact HB.out | apply pA | apply pN | apply p1 | refine pS ?_ GE205.out | refine pS ?_ GE210.out) | exact HB.out)⟩
                · rw [if_neg c32] at H
                  have c32b0 : (t201 == 2) = false := beq_eq_false_iff_ne.mpr c32
                  have c32b1 : (t201 != 2) = true := bne_iff_ne.mpr c32
                  by_cases c35 : t206 = 2
                  · rw [if_pos c35] at H
                    have c35b0 : (t206 == 2) = true := beq_iff_eq.mpr c35
                    have c35b1 : (t206 != 2) = false := bne_eq_false_iff_eq.mpr c35
                    clear c35
                    obtain rfl := Option.some.inj H
                    have hnb36 := NB205_210.out
                    have hnc36 := NB210_205.out
                    have hcz37_0 : wc.cell? ⟨gb205, 0, none⟩ = some (.int .i64 t201) := (blk_cell BK205.out 0).trans rfl
                    have hcz37_1 : wc.cell? ⟨gb205, 1, none⟩ = some (.bool t202) := (blk_cell BK205.out 1).trans rfl
                    have hcz37_2 : wc.cell? ⟨gb205, 2, none⟩ = some (.int .i64 t203) := (blk_cell BK205.out 2).trans rfl
                    have hcz37_3 : wc.cell? ⟨gb205, 3, none⟩ = some (.int .u64 t204) := (blk_cell BK205.out 3).trans rfl
                    have hfz37_0 := blk_frozen BK205.out 0
                    have hfz37_1 := blk_frozen BK205.out 1
                    have hfz37_2 := blk_frozen BK205.out 2
                    have hfz37_3 := blk_frozen BK205.out 3
                    have hcz38_0 : wc.cell? ⟨gb210, 0, none⟩ = some (.int .i64 t206) := (blk_cell BK210.out 0).trans rfl
                    have hcz38_1 : wc.cell? ⟨gb210, 1, none⟩ = some (.bool t207) := (blk_cell BK210.out 1).trans rfl
                    have hcz38_2 : wc.cell? ⟨gb210, 2, none⟩ = some (.int .i64 t208) := (blk_cell BK210.out 2).trans rfl
                    have hcz38_3 : wc.cell? ⟨gb210, 3, none⟩ = some (.int .u64 t209) := (blk_cell BK210.out 3).trans rfl
                    have hfz38_0 := blk_frozen BK210.out 0
                    have hfz38_1 := blk_frozen BK210.out 1
                    have hfz38_2 := blk_frozen BK210.out 2
                    have hfz38_3 := blk_frozen BK210.out 3
                    go_wp2
                    go_ret
                    exact ⟨by first | rfl | (simp [errW_none, errW_some] <;> rfl) | (simp [*, errW_none, errW_some] <;> rfl), by repeat (first | (with_reducible first | exact HB.out | apply pA | apply pN | apply p1 | refine pS ?_ GE205.out | refine pS ?_ GE210.out) | exact HB.out)⟩
                  · rw [if_neg c35] at H
                    have c35b0 : (t206 == 2) = false := beq_eq_false_iff_ne.mpr c35
                    have c35b1 : (t206 != 2) = true := bne_iff_ne.mpr c35
                    replace H := Option.bind_eq_some_iff.mp H
                    obtain ⟨⟨t221, t222, t223, t224, t225, t226, t227⟩, A390, H⟩ := H
                    replace H : ((vernierref07_Of.f t206 t207 t208 t209).bind fun bt229 => ((vernierref07_Cmp.f kj23 t221 t222 t223 t224 t225 t226 bt229.1 bt229.2.1 bt229.2.2.1 bt229.2.2.2.1 bt229.2.2.2.2.1 bt229.2.2.2.2.2.1).bind fun t237 => (if t197 = t237 then (some (t215 == t197)) else (some false)))) = some r := H
                    have A39 := Aside0.mk A390
                    clear A390
                    replace H := Option.bind_eq_some_iff.mp H
                    obtain ⟨⟨t229, t230, t231, t232, t233, t234, t235⟩, A400, H⟩ := H
                    replace H : ((vernierref07_Cmp.f kj23 t221 t222 t223 t224 t225 t226 t229 t230 t231 t232 t233 t234).bind fun t237 => (if t197 = t237 then (some (t215 == t197)) else (some false))) = some r := H
                    have A40 := Aside0.mk A400
                    clear A400
                    replace H := Option.bind_eq_some_iff.mp H
                    obtain ⟨t237, A410, H⟩ := H
                    replace H : (if t197 = t237 then (some (t215 == t197)) else (some false)) = some r := H
                    have A41 := Aside0.mk A410
                    clear A410
                    by_cases c42 : t197 = t237
                    · rw [if_pos c42] at H
                      have c42b0 : (t197 == t237) = true := beq_iff_eq.mpr c42
                      have c42b1 : (t197 != t237) = false := bne_eq_false_iff_eq.mpr c42
                      clear c42
                      obtain rfl := Option.some.inj H
                      have hnb43 := NB205_210.out
                      have hnc43 := NB210_205.out
                      have hcz44_0 : wc.cell? ⟨gb205, 0, none⟩ = some (.int .i64 t201) := (blk_cell BK205.out 0).trans rfl
                      have hcz44_1 : wc.cell? ⟨gb205, 1, none⟩ = some (.bool t202) := (blk_cell BK205.out 1).trans rfl
                      have hcz44_2 : wc.cell? ⟨gb205, 2, none⟩ = some (.int .i64 t203) := (blk_cell BK205.out 2).trans rfl
                      have hcz44_3 : wc.cell? ⟨gb205, 3, none⟩ = some (.int .u64 t204) := (blk_cell BK205.out 3).trans rfl
                      have hfz44_0 := blk_frozen BK205.out 0
                      have hfz44_1 := blk_frozen BK205.out 1
                      have hfz44_2 := blk_frozen BK205.out 2
                      have hfz44_3 := blk_frozen BK205.out 3
                      have hcz45_0 : wc.cell? ⟨gb210, 0, none⟩ = some (.int .i64 t206) := (blk_cell BK210.out 0).trans rfl
                      have hcz45_1 : wc.cell? ⟨gb210, 1, none⟩ = some (.bool t207) := (blk_cell BK210.out 1).trans rfl
                      have hcz45_2 : wc.cell? ⟨gb210, 2, none⟩ = some (.int .i64 t208) := (blk_cell BK210.out 2).trans rfl
                      have hcz45_3 : wc.cell? ⟨gb210, 3, none⟩ = some (.int .u64 t209) := (blk_cell BK210.out 3).trans rfl
                      have hfz45_0 := blk_frozen BK210.out 0
                      have hfz45_1 := blk_frozen BK210.out 1
                      have hfz45_2 := blk_frozen BK210.out 2
                      have hfz45_3 := blk_frozen BK210.out 3
                      go_wp2_with (first | ((with_reducible refine gC (f := 9) rfl ?_); (with_reducible refine gD (N := 113) rfl ?_); refine goesY_ (some 113) Try.func9 #[.agg #[.int .i64 t201, .bool t202, .int .i64 t203, .int .u64 t204]] ?_; (with_reducible refine (vernierref07_Of.calls t201 t202 t203 t204 t221 t222 t223 t224 t225 t226 t227 _ A39.out).mono ?_); rintro e w46 ⟨rfl, hb⟩; refine ⟨_, rfl, ?_⟩; have n0_ := Aside0.mk (bB3 BK205.out hb); have n1_ := Aside0.mk (bB3 BK210.out hb); have n2_ := Aside0.mk (bS3 HB.out hb); clear BK205; clear BK210; clear HB; have BK205 := n0_; have BK210 := n1_; have HB := n2_; clear n0_ n1_ n2_; (try clear hb); (try clear hb2); (try clear hk); (try clear hi)) | ((with_reducible refine gD (N := 19) rfl ?_); refine bE3 19 #[.int .i64 0, .bool false, .int .i64 0, .int .u64 0, .int .u64 0, .bool false] 36 ?hr ?_; (case hr => first | (go_simp; done) | (go_simp; rfl)); intro gb228 hg w47 hbox hb; have n0_ := Aside0.mk (bB3 BK205.out hb); have n1_ := Aside0.mk (bB3 BK210.out hb); have n2_ := Aside0.mk (bS3 HB.out hb); have n3_ := Aside0.mk (hbox); have n4_ := Aside0.mk ((bZ3 hg HB.out)); have n5_ := Aside0.mk ((bZ3 hg HB.out)); have n6_ := Aside0.mk ((bL3 hg BK205.out)); have n7_ := Aside0.mk ((bG3 hg BK205.out)); have n8_ := Aside0.mk ((bL3 hg BK210.out)); have n9_ := Aside0.mk ((bG3 hg BK210.out)); clear BK205; clear BK210; clear HB; have BK205 := n0_; have BK210 := n1_; have HB := n2_; have BK228 := n3_; have GW228 := n4_; have GE228 := n5_; have NB205_228 := n6_; have NB228_205 := n7_; have NB210_228 := n8_; have NB228_210 := n9_; clear n0_ n1_ n2_ n3_ n4_ n5_ n6_ n7_ n8_ n9_; clear hb hbox hg; have hnb48 := NB228_205.out; have hnc48 := NB205_228.out; have hnb49 := NB228_210.out; have hnc49 := NB210_228.out; have hcz50_0 : w47.cell? ⟨gb228, 0, none⟩ = some (.int .i64 0) := (blk_cell BK228.out 0).trans rfl; have hcz50_1 : w47.cell? ⟨gb228, 1, none⟩ = some (.bool false) := (blk_cell BK228.out 1).trans rfl; have hcz50_2 : w47.cell? ⟨gb228, 2, none⟩ = some (.int .i64 0) := (blk_cell BK228.out 2).trans rfl; have hcz50_3 : w47.cell? ⟨gb228, 3, none⟩ = some (.int .u64 0) := (blk_cell BK228.out 3).trans rfl; have hcz50_4 : w47.cell? ⟨gb228, 4, none⟩ = some (.int .u64 0) := (blk_cell BK228.out 4).trans rfl; have hcz50_5 : w47.cell? ⟨gb228, 5, none⟩ = some (.bool false) := (blk_cell BK228.out 5).trans rfl; have hfz50_0 := blk_frozen BK228.out 0; have hfz50_1 := blk_frozen BK228.out 1; have hfz50_2 := blk_frozen BK228.out 2; have hfz50_3 := blk_frozen BK228.out 3; have hfz50_4 := blk_frozen BK228.out 4; have hfz50_5 := blk_frozen BK228.out 5; have hcz51_0 : w47.cell? ⟨gb210, 0, none⟩ = some (.int .i64 t206) := (blk_cell BK210.out 0).trans rfl; have hcz51_1 : w47.cell? ⟨gb210, 1, none⟩ = some (.bool t207) := (blk_cell BK210.out 1).trans rfl; have hcz51_2 : w47.cell? ⟨gb210, 2, none⟩ = some (.int .i64 t208) := (blk_cell BK210.out 2).trans rfl; have hcz51_3 : w47.cell? ⟨gb210, 3, none⟩ = some (.int .u64 t209) := (blk_cell BK210.out 3).trans rfl; have hfz51_0 := blk_frozen BK210.out 0; have hfz51_1 := blk_frozen BK210.out 1; have hfz51_2 := blk_frozen BK210.out 2; have hfz51_3 := blk_frozen BK210.out 3) | ((with_reducible refine gC (f := 9) rfl ?_); (with_reducible refine gD (N := 118) rfl ?_); refine goesY_ (some 118) Try.func9 #[.agg #[.int .i64 t206, .bool t207, .int .i64 t208, .int .u64 t209]] ?_; (with_reducible refine (vernierref07_Of.calls t206 t207 t208 t209 t229 t230 t231 t232 t233 t234 t235 _ A40.out).mono ?_); rintro e w52 ⟨rfl, hb⟩; refine ⟨_, rfl, ?_⟩; have n0_ := Aside0.mk (bB (g := gb205) (o := .cells #[.int .i64 t201, .bool t202, .int .i64 t203, .int .u64 t204] 31 (0, 0)) (by (with_reducible repeat (first | refine bN ?_ _ | refine bD ?_ | refine bA ?_ _)); refine blk_far ?_ NB205_228.out _; (with_reducible repeat (first | refine bN ?_ _ | refine bD ?_ | refine bA ?_ _)); refine blk_far ?_ NB205_228.out _; (with_reducible repeat (first | refine bN ?_ _ | refine bD ?_ | refine bA ?_ _)); refine blk_far ?_ NB205_228.out _; (with_reducible repeat (first | refine bN ?_ _ | refine bD ?_ | refine bA ?_ _)); refine blk_far ?_ NB205_228.out _; (with_reducible repeat (first | refine bN ?_ _ | refine bD ?_ | refine bA ?_ _)); refine blk_far ?_ NB205_228.out _; (with_reducible repeat (first | refine bN ?_ _ | refine bD ?_ | refine bA ?_ _)); refine blk_far ?_ NB205_228.out _; (with_reducible repeat (first | refine bN ?_ _ | refine bD ?_ | refine bA ?_ _)); exact BK205.out) hb); have n1_ := Aside0.mk (bB (g := gb210) (o := .cells #[.int .i64 t206, .bool t207, .int .i64 t208, .int .u64 t209] 31 (0, 0)) (by (with_reducible repeat (first | refine bN ?_ _ | refine bD ?_ | refine bA ?_ _)); refine blk_far ?_ NB210_228.out _; (with_reducible repeat (first | refine bN ?_ _ | refine bD ?_ | refine bA ?_ _)); refine blk_far ?_ NB210_228.out _; (with_reducible repeat (first | refine bN ?_ _ | refine bD ?_ | refine bA ?_ _)); refine blk_far ?_ NB210_228.out _; (with_reducible repeat (first | refine bN ?_ _ | refine bD ?_ | refine bA ?_ _)); refine blk_far ?_ NB210_228.out _; (with_reducible repeat (first | refine bN ?_ _ | refine bD ?_ | refine bA ?_ _)); refine blk_far ?_ NB210_228.out _; (with_reducible repeat (first | refine bN ?_ _ | refine bD ?_ | refine bA ?_ _)); refine blk_far ?_ NB210_228.out _; (with_reducible repeat (first | refine bN ?_ _ | refine bD ?_ | refine bA ?_ _)); exact BK210.out) hb); have n2_ := Aside0.mk (bB (g := gb228) (o := .cells #[.int .i64 t221, .bool t222, .int .i64 t223, .int .u64 t224, .int .u64 t225, .bool t226] 36 (0, 0)) (by (with_reducible repeat (first | refine bN ?_ _ | refine bD ?_ | refine bA ?_ _)); refine blk_put (cs := #[.int .i64 t221, .bool t222, .int .i64 t223, .int .u64 t224, .int .u64 t225, .bool false]) ?_ 5 _ rfl; (with_reducible repeat (first | refine bN ?_ _ | refine bD ?_ | refine bA ?_ _)); refine blk_put (cs := #[.int .i64 t221, .bool t222, .int .i64 t223, .int .u64 t224, .int .u64 0, .bool false]) ?_ 4 _ rfl; (with_reducible repeat (first | refine bN ?_ _ | refine bD ?_ | refine bA ?_ _)); refine blk_put (cs := #[.int .i64 t221, .bool t222, .int .i64 t223, .int .u64 0, .int .u64 0, .bool false]) ?_ 3 _ rfl; (with_reducible repeat (first | refine bN ?_ _ | refine bD ?_ | refine bA ?_ _)); refine blk_put (cs := #[.int .i64 t221, .bool t222, .int .i64 0, .int .u64 0, .int .u64 0, .bool false]) ?_ 2 _ rfl; (with_reducible repeat (first | refine bN ?_ _ | refine bD ?_ | refine bA ?_ _)); refine blk_put (cs := #[.int .i64 t221, .bool false, .int .i64 0, .int .u64 0, .int .u64 0, .bool false]) ?_ 1 _ rfl; (with_reducible repeat (first | refine bN ?_ _ | refine bD ?_ | refine bA ?_ _)); refine blk_put (cs := #[.int .i64 0, .bool false, .int .i64 0, .int .u64 0, .int .u64 0, .bool false]) ?_ 0 _ rfl; (with_reducible repeat (first | refine bN ?_ _ | refine bD ?_ | refine bA ?_ _)); exact BK228.out) hb); have n3_ := Aside0.mk (bS3 HB.out hb); clear BK205; clear BK210; clear BK228; clear HB; have BK205 := n0_; have BK210 := n1_; have BK228 := n2_; have HB := n3_; clear n0_ n1_ n2_ n3_; (try clear hb); (try clear hb2); (try clear hk); (try clear hi)) | ((with_reducible refine gD (N := 21) rfl ?_); refine bE3 21 #[.int .i64 0, .bool false, .int .i64 0, .int .u64 0, .int .u64 0, .bool false] 36 ?hr ?_; (case hr => first | (go_simp; done) | (go_simp; rfl)); intro gb236 hg w53 hbox hb; have n0_ := Aside0.mk (bB3 BK205.out hb); have n1_ := Aside0.mk (bB3 BK210.out hb); have n2_ := Aside0.mk (bB3 BK228.out hb); have n3_ := Aside0.mk (bS3 HB.out hb); have n4_ := Aside0.mk (hbox); have n5_ := Aside0.mk ((bZ3 hg HB.out)); have n6_ := Aside0.mk ((bZ3 hg HB.out)); have n7_ := Aside0.mk ((bL3 hg BK205.out)); have n8_ := Aside0.mk ((bG3 hg BK205.out)); have n9_ := Aside0.mk ((bL3 hg BK210.out)); have n10_ := Aside0.mk ((bG3 hg BK210.out)); have n11_ := Aside0.mk ((bL3 hg BK228.out)); have n12_ := Aside0.mk ((bG3 hg BK228.out)); clear BK205; clear BK210; clear BK228; clear HB; have BK205 := n0_; have BK210 := n1_; have BK228 := n2_; have HB := n3_; have BK236 := n4_; have GW236 := n5_; have GE236 := n6_; have NB205_236 := n7_; have NB236_205 := n8_; have NB210_236 := n9_; have NB236_210 := n10_; have NB228_236 := n11_; have NB236_228 := n12_; clear n0_ n1_ n2_ n3_ n4_ n5_ n6_ n7_ n8_ n9_ n10_ n11_ n12_; clear hb hbox hg; have hnb54 := NB236_205.out; have hnc54 := NB205_236.out; have hnb55 := NB236_210.out; have hnc55 := NB210_236.out; have hnb56 := NB236_228.out; have hnc56 := NB228_236.out; have hcz57_0 : w53.cell? ⟨gb236, 0, none⟩ = some (.int .i64 0) := (blk_cell BK236.out 0).trans rfl; have hcz57_1 : w53.cell? ⟨gb236, 1, none⟩ = some (.bool false) := (blk_cell BK236.out 1).trans rfl; have hcz57_2 : w53.cell? ⟨gb236, 2, none⟩ = some (.int .i64 0) := (blk_cell BK236.out 2).trans rfl; have hcz57_3 : w53.cell? ⟨gb236, 3, none⟩ = some (.int .u64 0) := (blk_cell BK236.out 3).trans rfl; have hcz57_4 : w53.cell? ⟨gb236, 4, none⟩ = some (.int .u64 0) := (blk_cell BK236.out 4).trans rfl; have hcz57_5 : w53.cell? ⟨gb236, 5, none⟩ = some (.bool false) := (blk_cell BK236.out 5).trans rfl; have hfz57_0 := blk_frozen BK236.out 0; have hfz57_1 := blk_frozen BK236.out 1; have hfz57_2 := blk_frozen BK236.out 2; have hfz57_3 := blk_frozen BK236.out 3; have hfz57_4 := blk_frozen BK236.out 4; have hfz57_5 := blk_frozen BK236.out 5; have hcz58_0 : w53.cell? ⟨gb228, 0, none⟩ = some (.int .i64 t221) := (blk_cell BK228.out 0).trans rfl; have hcz58_1 : w53.cell? ⟨gb228, 1, none⟩ = some (.bool t222) := (blk_cell BK228.out 1).trans rfl; have hcz58_2 : w53.cell? ⟨gb228, 2, none⟩ = some (.int .i64 t223) := (blk_cell BK228.out 2).trans rfl; have hcz58_3 : w53.cell? ⟨gb228, 3, none⟩ = some (.int .u64 t224) := (blk_cell BK228.out 3).trans rfl; have hcz58_4 : w53.cell? ⟨gb228, 4, none⟩ = some (.int .u64 t225) := (blk_cell BK228.out 4).trans rfl; have hcz58_5 : w53.cell? ⟨gb228, 5, none⟩ = some (.bool t226) := (blk_cell BK228.out 5).trans rfl; have hfz58_0 := blk_frozen BK228.out 0; have hfz58_1 := blk_frozen BK228.out 1; have hfz58_2 := blk_frozen BK228.out 2; have hfz58_3 := blk_frozen BK228.out 3; have hfz58_4 := blk_frozen BK228.out 4; have hfz58_5 := blk_frozen BK228.out 5) | ((with_reducible refine gC (f := 10) rfl ?_); (with_reducible refine gD (N := 124) rfl ?_); refine goesY_ (some 124) Try.func10 #[.agg #[.int .i64 t221, .bool t222, .int .i64 t223, .int .u64 t224, .int .u64 t225, .bool t226], .agg #[.int .i64 t229, .bool t230, .int .i64 t231, .int .u64 t232, .int .u64 t233, .bool t234]] ?_; (with_reducible refine (vernierref07_Cmp.calls kj23 t221 t222 t223 t224 t225 t226 t229 t230 t231 t232 t233 t234 t237 _ A41.out).mono ?_); rintro e w59 ⟨rfl, hb⟩; refine ⟨_, rfl, ?_⟩; have n0_ := Aside0.mk (bB (g := gb205) (o := .cells #[.int .i64 t201, .bool t202, .int .i64 t203, .int .u64 t204] 31 (0, 0)) (by (with_reducible repeat (first | refine bN ?_ _ | refine bD ?_ | refine bA ?_ _)); refine blk_far ?_ NB205_236.out _; (with_reducible repeat (first | refine bN ?_ _ | refine bD ?_ | refine bA ?_ _)); refine blk_far ?_ NB205_236.out _; (with_reducible repeat (first | refine bN ?_ _ | refine bD ?_ | refine bA ?_ _)); refine blk_far ?_ NB205_236.out _; (with_reducible repeat (first | refine bN ?_ _ | refine bD ?_ | refine bA ?_ _)); refine blk_far ?_ NB205_236.out _; (with_reducible repeat (first | refine bN ?_ _ | refine bD ?_ | refine bA ?_ _)); refine blk_far ?_ NB205_236.out _; (with_reducible repeat (first | refine bN ?_ _ | refine bD ?_ | refine bA ?_ _)); refine blk_far ?_ NB205_236.out _; (with_reducible repeat (first | refine bN ?_ _ | refine bD ?_ | refine bA ?_ _)); exact BK205.out) hb); have n1_ := Aside0.mk (bB (g := gb210) (o := .cells #[.int .i64 t206, .bool t207, .int .i64 t208, .int .u64 t209] 31 (0, 0)) (by (with_reducible repeat (first | refine bN ?_ _ | refine bD ?_ | refine bA ?_ _)); refine blk_far ?_ NB210_236.out _; (with_reducible repeat (first | refine bN ?_ _ | refine bD ?_ | refine bA ?_ _)); refine blk_far ?_ NB210_236.out _; (with_reducible repeat (first | refine bN ?_ _ | refine bD ?_ | refine bA ?_ _)); refine blk_far ?_ NB210_236.out _; (with_reducible repeat (first | refine bN ?_ _ | refine bD ?_ | refine bA ?_ _)); refine blk_far ?_ NB210_236.out _; (with_reducible repeat (first | refine bN ?_ _ | refine bD ?_ | refine bA ?_ _)); refine blk_far ?_ NB210_236.out _; (with_reducible repeat (first | refine bN ?_ _ | refine bD ?_ | refine bA ?_ _)); refine blk_far ?_ NB210_236.out _; (with_reducible repeat (first | refine bN ?_ _ | refine bD ?_ | refine bA ?_ _)); exact BK210.out) hb); have n2_ := Aside0.mk (bB (g := gb228) (o := .cells #[.int .i64 t221, .bool t222, .int .i64 t223, .int .u64 t224, .int .u64 t225, .bool t226] 36 (0, 0)) (by (with_reducible repeat (first | refine bN ?_ _ | refine bD ?_ | refine bA ?_ _)); refine blk_far ?_ NB228_236.out _; (with_reducible repeat (first | refine bN ?_ _ | refine bD ?_ | refine bA ?_ _)); refine blk_far ?_ NB228_236.out _; (with_reducible repeat (first | refine bN ?_ _ | refine bD ?_ | refine bA ?_ _)); refine blk_far ?_ NB228_236.out _; (with_reducible repeat (first | refine bN ?_ _ | refine bD ?_ | refine bA ?_ _)); refine blk_far ?_ NB228_236.out _; (with_reducible repeat (first | refine bN ?_ _ | refine bD ?_ | refine bA ?_ _)); refine blk_far ?_ NB228_236.out _; (with_reducible repeat (first | refine bN ?_ _ | refine bD ?_ | refine bA ?_ _)); refine blk_far ?_ NB228_236.out _; (with_reducible repeat (first | refine bN ?_ _ | refine bD ?_ | refine bA ?_ _)); exact BK228.out) hb); have n3_ := Aside0.mk (bB (g := gb236) (o := .cells #[.int .i64 t229, .bool t230, .int .i64 t231, .int .u64 t232, .int .u64 t233, .bool t234] 36 (0, 0)) (by (with_reducible repeat (first | refine bN ?_ _ | refine bD ?_ | refine bA ?_ _)); refine blk_put (cs := #[.int .i64 t229, .bool t230, .int .i64 t231, .int .u64 t232, .int .u64 t233, .bool false]) ?_ 5 _ rfl; (with_reducible repeat (first | refine bN ?_ _ | refine bD ?_ | refine bA ?_ _)); refine blk_put (cs := #[.int .i64 t229, .bool t230, .int .i64 t231, .int .u64 t232, .int .u64 0, .bool false]) ?_ 4 _ rfl; (with_reducible repeat (first | refine bN ?_ _ | refine bD ?_ | refine bA ?_ _)); refine blk_put (cs := #[.int .i64 t229, .bool t230, .int .i64 t231, .int .u64 0, .int .u64 0, .bool false]) ?_ 3 _ rfl; (with_reducible repeat (first | refine bN ?_ _ | refine bD ?_ | refine bA ?_ _)); refine blk_put (cs := #[.int .i64 t229, .bool t230, .int .i64 0, .int .u64 0, .int .u64 0, .bool false]) ?_ 2 _ rfl; (with_reducible repeat (first | refine bN ?_ _ | refine bD ?_ | refine bA ?_ _)); refine blk_put (cs := #[.int .i64 t229, .bool false, .int .i64 0, .int .u64 0, .int .u64 0, .bool false]) ?_ 1 _ rfl; (with_reducible repeat (first | refine bN ?_ _ | refine bD ?_ | refine bA ?_ _)); refine blk_put (cs := #[.int .i64 0, .bool false, .int .i64 0, .int .u64 0, .int .u64 0, .bool false]) ?_ 0 _ rfl; (with_reducible repeat (first | refine bN ?_ _ | refine bD ?_ | refine bA ?_ _)); exact BK236.out) hb); have n4_ := Aside0.mk (bS3 HB.out hb); clear BK205; clear BK210; clear BK228; clear BK236; clear HB; have BK205 := n0_; have BK210 := n1_; have BK228 := n2_; have BK236 := n3_; have HB := n4_; clear n0_ n1_ n2_ n3_ n4_; (try clear hb); (try clear hb2); (try clear hk); (try clear hi)))
                      go_ret
                      exact ⟨by first | rfl | (simp [errW_none, errW_some] <;> rfl) | (simp [*, errW_none, errW_some] <;> rfl), by repeat (first | (with_reducible first | exact HB.out | apply pA | apply pN | apply p1 | refine pS ?_ GE205.out | refine pS ?_ GE210.out | refine pS ?_ GE228.out | refine pS ?_ GE236.out) | exact HB.out)⟩
                    · rw [if_neg c42] at H
                      have c42b0 : (t197 == t237) = false := beq_eq_false_iff_ne.mpr c42
                      have c42b1 : (t197 != t237) = true := bne_iff_ne.mpr c42
                      obtain rfl := Option.some.inj H
                      have hnb60 := NB205_210.out
                      have hnc60 := NB210_205.out
                      have hcz61_0 : wc.cell? ⟨gb205, 0, none⟩ = some (.int .i64 t201) := (blk_cell BK205.out 0).trans rfl
                      have hcz61_1 : wc.cell? ⟨gb205, 1, none⟩ = some (.bool t202) := (blk_cell BK205.out 1).trans rfl
                      have hcz61_2 : wc.cell? ⟨gb205, 2, none⟩ = some (.int .i64 t203) := (blk_cell BK205.out 2).trans rfl
                      have hcz61_3 : wc.cell? ⟨gb205, 3, none⟩ = some (.int .u64 t204) := (blk_cell BK205.out 3).trans rfl
                      have hfz61_0 := blk_frozen BK205.out 0
                      have hfz61_1 := blk_frozen BK205.out 1
                      have hfz61_2 := blk_frozen BK205.out 2
                      have hfz61_3 := blk_frozen BK205.out 3
                      have hcz62_0 : wc.cell? ⟨gb210, 0, none⟩ = some (.int .i64 t206) := (blk_cell BK210.out 0).trans rfl
                      have hcz62_1 : wc.cell? ⟨gb210, 1, none⟩ = some (.bool t207) := (blk_cell BK210.out 1).trans rfl
                      have hcz62_2 : wc.cell? ⟨gb210, 2, none⟩ = some (.int .i64 t208) := (blk_cell BK210.out 2).trans rfl
                      have hcz62_3 : wc.cell? ⟨gb210, 3, none⟩ = some (.int .u64 t209) := (blk_cell BK210.out 3).trans rfl
                      have hfz62_0 := blk_frozen BK210.out 0
                      have hfz62_1 := blk_frozen BK210.out 1
                      have hfz62_2 := blk_frozen BK210.out 2
                      have hfz62_3 := blk_frozen BK210.out 3
                      go_wp2_with (first | ((with_reducible refine gC (f := 9) rfl ?_); (with_reducible refine gD (N := 113) rfl ?_); refine goesY_ (some 113) Try.func9 #[.agg #[.int .i64 t201, .bool t202, .int .i64 t203, .int .u64 t204]] ?_; (with_reducible refine (vernierref07_Of.calls t201 t202 t203 t204 t221 t222 t223 t224 t225 t226 t227 _ A39.out).mono ?_); rintro e w63 ⟨rfl, hb⟩; refine ⟨_, rfl, ?_⟩; have n0_ := Aside0.mk (bB3 BK205.out hb); have n1_ := Aside0.mk (bB3 BK210.out hb); have n2_ := Aside0.mk (bS3 HB.out hb); clear BK205; clear BK210; clear HB; have BK205 := n0_; have BK210 := n1_; have HB := n2_; clear n0_ n1_ n2_; (try clear hb); (try clear hb2); (try clear hk); (try clear hi)) | ((with_reducible refine gD (N := 19) rfl ?_); refine bE3 19 #[.int .i64 0, .bool false, .int .i64 0, .int .u64 0, .int .u64 0, .bool false] 36 ?hr ?_; (case hr => first | (go_simp; done) | (go_simp; rfl)); intro gb228 hg w64 hbox hb; have n0_ := Aside0.mk (bB3 BK205.out hb); have n1_ := Aside0.mk (bB3 BK210.out hb); have n2_ := Aside0.mk (bS3 HB.out hb); have n3_ := Aside0.mk (hbox); have n4_ := Aside0.mk ((bZ3 hg HB.out)); have n5_ := Aside0.mk ((bZ3 hg HB.out)); have n6_ := Aside0.mk ((bL3 hg BK205.out)); have n7_ := Aside0.mk ((bG3 hg BK205.out)); have n8_ := Aside0.mk ((bL3 hg BK210.out)); have n9_ := Aside0.mk ((bG3 hg BK210.out)); clear BK205; clear BK210; clear HB; have BK205 := n0_; have BK210 := n1_; have HB := n2_; have BK228 := n3_; have GW228 := n4_; have GE228 := n5_; have NB205_228 := n6_; have NB228_205 := n7_; have NB210_228 := n8_; have NB228_210 := n9_; clear n0_ n1_ n2_ n3_ n4_ n5_ n6_ n7_ n8_ n9_; clear hb hbox hg; have hnb65 := NB228_205.out; have hnc65 := NB205_228.out; have hnb66 := NB228_210.out; have hnc66 := NB210_228.out; have hcz67_0 : w64.cell? ⟨gb228, 0, none⟩ = some (.int .i64 0) := (blk_cell BK228.out 0).trans rfl; have hcz67_1 : w64.cell? ⟨gb228, 1, none⟩ = some (.bool false) := (blk_cell BK228.out 1).trans rfl; have hcz67_2 : w64.cell? ⟨gb228, 2, none⟩ = some (.int .i64 0) := (blk_cell BK228.out 2).trans rfl; have hcz67_3 : w64.cell? ⟨gb228, 3, none⟩ = some (.int .u64 0) := (blk_cell BK228.out 3).trans rfl; have hcz67_4 : w64.cell? ⟨gb228, 4, none⟩ = some (.int .u64 0) := (blk_cell BK228.out 4).trans rfl; have hcz67_5 : w64.cell? ⟨gb228, 5, none⟩ = some (.bool false) := (blk_cell BK228.out 5).trans rfl; have hfz67_0 := blk_frozen BK228.out 0; have hfz67_1 := blk_frozen BK228.out 1; have hfz67_2 := blk_frozen BK228.out 2; have hfz67_3 := blk_frozen BK228.out 3; have hfz67_4 := blk_frozen BK228.out 4; have hfz67_5 := blk_frozen BK228.out 5; have hcz68_0 : w64.cell? ⟨gb210, 0, none⟩ = some (.int .i64 t206) := (blk_cell BK210.out 0).trans rfl; have hcz68_1 : w64.cell? ⟨gb210, 1, none⟩ = some (.bool t207) := (blk_cell BK210.out 1).trans rfl; have hcz68_2 : w64.cell? ⟨gb210, 2, none⟩ = some (.int .i64 t208) := (blk_cell BK210.out 2).trans rfl; have hcz68_3 : w64.cell? ⟨gb210, 3, none⟩ = some (.int .u64 t209) := (blk_cell BK210.out 3).trans rfl; have hfz68_0 := blk_frozen BK210.out 0; have hfz68_1 := blk_frozen BK210.out 1; have hfz68_2 := blk_frozen BK210.out 2; have hfz68_3 := blk_frozen BK210.out 3) | ((with_reducible refine gC (f := 9) rfl ?_); (with_reducible refine gD (N := 118) rfl ?_); refine goesY_ (some 118) Try.func9 #[.agg #[.int .i64 t206, .bool t207, .int .i64 t208, .int .u64 t209]] ?_; (with_reducible refine (vernierref07_Of.calls t206 t207 t208 t209 t229 t230 t231 t232 t233 t234 t235 _ A40.out).mono ?_); rintro e w69 ⟨rfl, hb⟩; refine ⟨_, rfl, ?_⟩; have n0_ := Aside0.mk (bB (g := gb205) (o := .cells #[.int .i64 t201, .bool t202, .int .i64 t203, .int .u64 t204] 31 (0, 0)) (by (with_reducible repeat (first | refine bN ?_ _ | refine bD ?_ | refine bA ?_ _)); refine blk_far ?_ NB205_228.out _; (with_reducible repeat (first | refine bN ?_ _ | refine bD ?_ | refine bA ?_ _)); refine blk_far ?_ NB205_228.out _; (with_reducible repeat (first | refine bN ?_ _ | refine bD ?_ | refine bA ?_ _)); refine blk_far ?_ NB205_228.out _; (with_reducible repeat (first | refine bN ?_ _ | refine bD ?_ | refine bA ?_ _)); refine blk_far ?_ NB205_228.out _; (with_reducible repeat (first | refine bN ?_ _ | refine bD ?_ | refine bA ?_ _)); refine blk_far ?_ NB205_228.out _; (with_reducible repeat (first | refine bN ?_ _ | refine bD ?_ | refine bA ?_ _)); refine blk_far ?_ NB205_228.out _; (with_reducible repeat (first | refine bN ?_ _ | refine bD ?_ | refine bA ?_ _)); exact BK205.out) hb); have n1_ := Aside0.mk (bB (g := gb210) (o := .cells #[.int .i64 t206, .bool t207, .int .i64 t208, .int .u64 t209] 31 (0, 0)) (by (with_reducible repeat (first | refine bN ?_ _ | refine bD ?_ | refine bA ?_ _)); refine blk_far ?_ NB210_228.out _; (with_reducible repeat (first | refine bN ?_ _ | refine bD ?_ | refine bA ?_ _)); refine blk_far ?_ NB210_228.out _; (with_reducible repeat (first | refine bN ?_ _ | refine bD ?_ | refine bA ?_ _)); refine blk_far ?_ NB210_228.out _; (with_reducible repeat (first | refine bN ?_ _ | refine bD ?_ | refine bA ?_ _)); refine blk_far ?_ NB210_228.out _; (with_reducible repeat (first | refine bN ?_ _ | refine bD ?_ | refine bA ?_ _)); refine blk_far ?_ NB210_228.out _; (with_reducible repeat (first | refine bN ?_ _ | refine bD ?_ | refine bA ?_ _)); refine blk_far ?_ NB210_228.out _; (with_reducible repeat (first | refine bN ?_ _ | refine bD ?_ | refine bA ?_ _)); exact BK210.out) hb); have n2_ := Aside0.mk (bB (g := gb228) (o := .cells #[.int .i64 t221, .bool t222, .int .i64 t223, .int .u64 t224, .int .u64 t225, .bool t226] 36 (0, 0)) (by (with_reducible repeat (first | refine bN ?_ _ | refine bD ?_ | refine bA ?_ _)); refine blk_put (cs := #[.int .i64 t221, .bool t222, .int .i64 t223, .int .u64 t224, .int .u64 t225, .bool false]) ?_ 5 _ rfl; (with_reducible repeat (first | refine bN ?_ _ | refine bD ?_ | refine bA ?_ _)); refine blk_put (cs := #[.int .i64 t221, .bool t222, .int .i64 t223, .int .u64 t224, .int .u64 0, .bool false]) ?_ 4 _ rfl; (with_reducible repeat (first | refine bN ?_ _ | refine bD ?_ | refine bA ?_ _)); refine blk_put (cs := #[.int .i64 t221, .bool t222, .int .i64 t223, .int .u64 0, .int .u64 0, .bool false]) ?_ 3 _ rfl; (with_reducible repeat (first | refine bN ?_ _ | refine bD ?_ | refine bA ?_ _)); refine blk_put (cs := #[.int .i64 t221, .bool t222, .int .i64 0, .int .u64 0, .int .u64 0, .bool false]) ?_ 2 _ rfl; (with_reducible repeat (first | refine bN ?_ _ | refine bD ?_ | refine bA ?_ _)); refine blk_put (cs := #[.int .i64 t221, .bool false, .int .i64 0, .int .u64 0, .int .u64 0, .bool false]) ?_ 1 _ rfl; (with_reducible repeat (first | refine bN ?_ _ | refine bD ?_ | refine bA ?_ _)); refine blk_put (cs := #[.int .i64 0, .bool false, .int .i64 0, .int .u64 0, .int .u64 0, .bool false]) ?_ 0 _ rfl; (with_reducible repeat (first | refine bN ?_ _ | refine bD ?_ | refine bA ?_ _)); exact BK228.out) hb); have n3_ := Aside0.mk (bS3 HB.out hb); clear BK205; clear BK210; clear BK228; clear HB; have BK205 := n0_; have BK210 := n1_; have BK228 := n2_; have HB := n3_; clear n0_ n1_ n2_ n3_; (try clear hb); (try clear hb2); (try clear hk); (try clear hi)) | ((with_reducible refine gD (N := 21) rfl ?_); refine bE3 21 #[.int .i64 0, .bool false, .int .i64 0, .int .u64 0, .int .u64 0, .bool false] 36 ?hr ?_; (case hr => first | (go_simp; done) | (go_simp; rfl)); intro gb236 hg w70 hbox hb; have n0_ := Aside0.mk (bB3 BK205.out hb); have n1_ := Aside0.mk (bB3 BK210.out hb); have n2_ := Aside0.mk (bB3 BK228.out hb); have n3_ := Aside0.mk (bS3 HB.out hb); have n4_ := Aside0.mk (hbox); have n5_ := Aside0.mk ((bZ3 hg HB.out)); have n6_ := Aside0.mk ((bZ3 hg HB.out)); have n7_ := Aside0.mk ((bL3 hg BK205.out)); have n8_ := Aside0.mk ((bG3 hg BK205.out)); have n9_ := Aside0.mk ((bL3 hg BK210.out)); have n10_ := Aside0.mk ((bG3 hg BK210.out)); have n11_ := Aside0.mk ((bL3 hg BK228.out)); have n12_ := Aside0.mk ((bG3 hg BK228.out)); clear BK205; clear BK210; clear BK228; clear HB; have BK205 := n0_; have BK210 := n1_; have BK228 := n2_; have HB := n3_; have BK236 := n4_; have GW236 := n5_; have GE236 := n6_; have NB205_236 := n7_; have NB236_205 := n8_; have NB210_236 := n9_; have NB236_210 := n10_; have NB228_236 := n11_; have NB236_228 := n12_; clear n0_ n1_ n2_ n3_ n4_ n5_ n6_ n7_ n8_ n9_ n10_ n11_ n12_; clear hb hbox hg; have hnb71 := NB236_205.out; have hnc71 := NB205_236.out; have hnb72 := NB236_210.out; have hnc72 := NB210_236.out; have hnb73 := NB236_228.out; have hnc73 := NB228_236.out; have hcz74_0 : w70.cell? ⟨gb236, 0, none⟩ = some (.int .i64 0) := (blk_cell BK236.out 0).trans rfl; have hcz74_1 : w70.cell? ⟨gb236, 1, none⟩ = some (.bool false) := (blk_cell BK236.out 1).trans rfl; have hcz74_2 : w70.cell? ⟨gb236, 2, none⟩ = some (.int .i64 0) := (blk_cell BK236.out 2).trans rfl; have hcz74_3 : w70.cell? ⟨gb236, 3, none⟩ = some (.int .u64 0) := (blk_cell BK236.out 3).trans rfl; have hcz74_4 : w70.cell? ⟨gb236, 4, none⟩ = some (.int .u64 0) := (blk_cell BK236.out 4).trans rfl; have hcz74_5 : w70.cell? ⟨gb236, 5, none⟩ = some (.bool false) := (blk_cell BK236.out 5).trans rfl; have hfz74_0 := blk_frozen BK236.out 0; have hfz74_1 := blk_frozen BK236.out 1; have hfz74_2 := blk_frozen BK236.out 2; have hfz74_3 := blk_frozen BK236.out 3; have hfz74_4 := blk_frozen BK236.out 4; have hfz74_5 := blk_frozen BK236.out 5; have hcz75_0 : w70.cell? ⟨gb228, 0, none⟩ = some (.int .i64 t221) := (blk_cell BK228.out 0).trans rfl; have hcz75_1 : w70.cell? ⟨gb228, 1, none⟩ = some (.bool t222) := (blk_cell BK228.out 1).trans rfl; have hcz75_2 : w70.cell? ⟨gb228, 2, none⟩ = some (.int .i64 t223) := (blk_cell BK228.out 2).trans rfl; have hcz75_3 : w70.cell? ⟨gb228, 3, none⟩ = some (.int .u64 t224) := (blk_cell BK228.out 3).trans rfl; have hcz75_4 : w70.cell? ⟨gb228, 4, none⟩ = some (.int .u64 t225) := (blk_cell BK228.out 4).trans rfl; have hcz75_5 : w70.cell? ⟨gb228, 5, none⟩ = some (.bool t226) := (blk_cell BK228.out 5).trans rfl; have hfz75_0 := blk_frozen BK228.out 0; have hfz75_1 := blk_frozen BK228.out 1; have hfz75_2 := blk_frozen BK228.out 2; have hfz75_3 := blk_frozen BK228.out 3; have hfz75_4 := blk_frozen BK228.out 4; have hfz75_5 := blk_frozen BK228.out 5) | ((with_reducible refine gC (f := 10) rfl ?_); (with_reducible refine gD (N := 124) rfl ?_); refine goesY_ (some 124) Try.func10 #[.agg #[.int .i64 t221, .bool t222, .int .i64 t223, .int .u64 t224, .int .u64 t225, .bool t226], .agg #[.int .i64 t229, .bool t230, .int .i64 t231, .int .u64 t232, .int .u64 t233, .bool t234]] ?_; (with_reducible refine (vernierref07_Cmp.calls kj23 t221 t222 t223 t224 t225 t226 t229 t230 t231 t232 t233 t234 t237 _ A41.out).mono ?_); rintro e w76 ⟨rfl, hb⟩; refine ⟨_, rfl, ?_⟩; have n0_ := Aside0.mk (bB (g := gb205) (o := .cells #[.int .i64 t201, .bool t202, .int .i64 t203, .int .u64 t204] 31 (0, 0)) (by (with_reducible repeat (first | refine bN ?_ _ | refine bD ?_ | refine bA ?_ _)); refine blk_far ?_ NB205_236.out _; (with_reducible repeat (first | refine bN ?_ _ | refine bD ?_ | refine bA ?_ _)); refine blk_far ?_ NB205_236.out _; (with_reducible repeat (first | refine bN ?_ _ | refine bD ?_ | refine bA ?_ _)); refine blk_far ?_ NB205_236.out _; (with_reducible repeat (first | refine bN ?_ _ | refine bD ?_ | refine bA ?_ _)); refine blk_far ?_ NB205_236.out _; (with_reducible repeat (first | refine bN ?_ _ | refine bD ?_ | refine bA ?_ _)); refine blk_far ?_ NB205_236.out _; (with_reducible repeat (first | refine bN ?_ _ | refine bD ?_ | refine bA ?_ _)); refine blk_far ?_ NB205_236.out _; (with_reducible repeat (first | refine bN ?_ _ | refine bD ?_ | refine bA ?_ _)); exact BK205.out) hb); have n1_ := Aside0.mk (bB (g := gb210) (o := .cells #[.int .i64 t206, .bool t207, .int .i64 t208, .int .u64 t209] 31 (0, 0)) (by (with_reducible repeat (first | refine bN ?_ _ | refine bD ?_ | refine bA ?_ _)); refine blk_far ?_ NB210_236.out _; (with_reducible repeat (first | refine bN ?_ _ | refine bD ?_ | refine bA ?_ _)); refine blk_far ?_ NB210_236.out _; (with_reducible repeat (first | refine bN ?_ _ | refine bD ?_ | refine bA ?_ _)); refine blk_far ?_ NB210_236.out _; (with_reducible repeat (first | refine bN ?_ _ | refine bD ?_ | refine bA ?_ _)); refine blk_far ?_ NB210_236.out _; (with_reducible repeat (first | refine bN ?_ _ | refine bD ?_ | refine bA ?_ _)); refine blk_far ?_ NB210_236.out _; (with_reducible repeat (first | refine bN ?_ _ | refine bD ?_ | refine bA ?_ _)); refine blk_far ?_ NB210_236.out _; (with_reducible repeat (first | refine bN ?_ _ | refine bD ?_ | refine bA ?_ _)); exact BK210.out) hb); have n2_ := Aside0.mk (bB (g := gb228) (o := .cells #[.int .i64 t221, .bool t222, .int .i64 t223, .int .u64 t224, .int .u64 t225, .bool t226] 36 (0, 0)) (by (with_reducible repeat (first | refine bN ?_ _ | refine bD ?_ | refine bA ?_ _)); refine blk_far ?_ NB228_236.out _; (with_reducible repeat (first | refine bN ?_ _ | refine bD ?_ | refine bA ?_ _)); refine blk_far ?_ NB228_236.out _; (with_reducible repeat (first | refine bN ?_ _ | refine bD ?_ | refine bA ?_ _)); refine blk_far ?_ NB228_236.out _; (with_reducible repeat (first | refine bN ?_ _ | refine bD ?_ | refine bA ?_ _)); refine blk_far ?_ NB228_236.out _; (with_reducible repeat (first | refine bN ?_ _ | refine bD ?_ | refine bA ?_ _)); refine blk_far ?_ NB228_236.out _; (with_reducible repeat (first | refine bN ?_ _ | refine bD ?_ | refine bA ?_ _)); refine blk_far ?_ NB228_236.out _; (with_reducible repeat (first | refine bN ?_ _ | refine bD ?_ | refine bA ?_ _)); exact BK228.out) hb); have n3_ := Aside0.mk (bB (g := gb236) (o := .cells #[.int .i64 t229, .bool t230, .int .i64 t231, .int .u64 t232, .int .u64 t233, .bool t234] 36 (0, 0)) (by (with_reducible repeat (first | refine bN ?_ _ | refine bD ?_ | refine bA ?_ _)); refine blk_put (cs := #[.int .i64 t229, .bool t230, .int .i64 t231, .int .u64 t232, .int .u64 t233, .bool false]) ?_ 5 _ rfl; (with_reducible repeat (first | refine bN ?_ _ | refine bD ?_ | refine bA ?_ _)); refine blk_put (cs := #[.int .i64 t229, .bool t230, .int .i64 t231, .int .u64 t232, .int .u64 0, .bool false]) ?_ 4 _ rfl; (with_reducible repeat (first | refine bN ?_ _ | refine bD ?_ | refine bA ?_ _)); refine blk_put (cs := #[.int .i64 t229, .bool t230, .int .i64 t231, .int .u64 0, .int .u64 0, .bool false]) ?_ 3 _ rfl; (with_reducible repeat (first | refine bN ?_ _ | refine bD ?_ | refine bA ?_ _)); refine blk_put (cs := #[.int .i64 t229, .bool t230, .int .i64 0, .int .u64 0, .int .u64 0, .bool false]) ?_ 2 _ rfl; (with_reducible repeat (first | refine bN ?_ _ | refine bD ?_ | refine bA ?_ _)); refine blk_put (cs := #[.int .i64 t229, .bool false, .int .i64 0, .int .u64 0, .int .u64 0, .bool false]) ?_ 1 _ rfl; (with_reducible repeat (first | refine bN ?_ _ | refine bD ?_ | refine bA ?_ _)); refine blk_put (cs := #[.int .i64 0, .bool false, .int .i64 0, .int .u64 0, .int .u64 0, .bool false]) ?_ 0 _ rfl; (with_reducible repeat (first | refine bN ?_ _ | refine bD ?_ | refine bA ?_ _)); exact BK236.out) hb); have n4_ := Aside0.mk (bS3 HB.out hb); clear BK205; clear BK210; clear BK228; clear BK236; clear HB; have BK205 := n0_; have BK210 := n1_; have BK228 := n2_; have BK236 := n3_; have HB := n4_; clear n0_ n1_ n2_ n3_ n4_; (try clear hb); (try clear hb2); (try clear hk); (try clear hi)))
                      go_ret
                      exact ⟨by first | rfl | (simp [errW_none, errW_some] <;> rfl) | (simp [*, errW_none, errW_some] <;> rfl), by repeat (first | (with_reducible first | exact HB.out | apply pA | apply pN | apply p1 | refine pS ?_ GE205.out | refine pS ?_ GE210.out | refine pS ?_ GE228.out | refine pS ?_ GE236.out) | exact HB.out)⟩
  · replace c7 := Bool.eq_false_iff.mpr c7
    subst c7
    have H1 : (if t196 = true then (if t198.isNone = true then (some false) else (if (t198.getD 0) = 2 then (some (t197 == 0)) else (some false))) else (some false)) = some r := by rw [if_neg (show ¬ (false = true) by decide)] at H; exact H
    clear H
    have H := H1
    clear H1
    by_cases c77 : t196 = true
    · subst c77
      have H1 : (if t198.isNone = true then (some false) else (if (t198.getD 0) = 2 then (some (t197 == 0)) else (some false))) = some r := by rw [if_pos rfl] at H; exact H
      clear H
      have H := H1
      clear H1
      rcases t198 with _ | q200
      · have H1 : (some false) = some r := by rw [if_pos (show (none : Option Int).isNone = true by rfl)] at H; exact H
        clear H
        have H := H1
        clear H1
        try simp only [errW_none, errW_some]
        obtain rfl := Option.some.inj H
        go_enter Try.func3, Try.ntmps3
        go_wp2_with (first | ((with_reducible refine gC (f := 4) rfl ?_); (with_reducible refine gD (N := 23) rfl ?_); refine goesY_ (some 23) Try.func4 #[] ?_; (with_reducible refine (vernierlaw08_up.calls  true _ A4.out).mono ?_); rintro e w78 ⟨rfl, hb⟩; refine ⟨_, rfl, ?_⟩; have n0_ := Aside0.mk (bS3 HB.out hb); clear HB; have HB := n0_; clear n0_; (try clear hb); (try clear hb2); (try clear hk); (try clear hi)) | ((with_reducible refine gC (f := 5) rfl ?_); (with_reducible refine gD (N := 28) rfl ?_); refine goesY_ (some 28) Try.func5 #[.int .i64 a0, .int .u64 a1, .int .u64 a2] ?_; (with_reducible refine (order_Cmp.calls a0 a1 a2 t197 none _ A5.out).mono ?_); rintro e w' ⟨rfl, ⟨nd, rfl⟩⟩; refine ⟨_, rfl, ?_⟩; (try simp only [errW_none, errW_some])) | ((with_reducible refine gC (f := 6) rfl ?_); (with_reducible refine gD (N := 32) rfl ?_); refine goesY_ (some 32) Try.func6 #[.int .i64 a0] ?_; (with_reducible refine (vernierref05_Is.calls a0 false _ A6.out).mono ?_); rintro e w' ⟨rfl, ⟨nd, rfl⟩⟩; refine ⟨_, rfl, ?_⟩))
        go_ret
        exact ⟨by first | rfl | (simp [errW_none, errW_some] <;> rfl) | (simp [*, errW_none, errW_some] <;> rfl), by repeat (first | (with_reducible first | exact HB.out | apply pA | apply pN | apply p1) | exact HB.out)⟩
      · have H1 : (if q200 = 2 then (some (t197 == 0)) else (some false)) = some r := by rw [if_neg (show ¬ (some q200).isNone = true by simp)] at H; exact H
        clear H
        have H := H1
        clear H1
        try simp only [errW_none, errW_some]
        by_cases c79 : q200 = 2
        · rw [if_pos c79] at H
          have c79b0 : (q200 == 2) = true := beq_iff_eq.mpr c79
          have c79b1 : (q200 != 2) = false := bne_eq_false_iff_eq.mpr c79
          clear c79
          obtain rfl := Option.some.inj H
          go_enter Try.func3, Try.ntmps3
          go_wp2_with (first | ((with_reducible refine gC (f := 4) rfl ?_); (with_reducible refine gD (N := 23) rfl ?_); refine goesY_ (some 23) Try.func4 #[] ?_; (with_reducible refine (vernierlaw08_up.calls  true _ A4.out).mono ?_); rintro e w80 ⟨rfl, hb⟩; refine ⟨_, rfl, ?_⟩; have n0_ := Aside0.mk (bS3 HB.out hb); clear HB; have HB := n0_; clear n0_; (try clear hb); (try clear hb2); (try clear hk); (try clear hi)) | ((with_reducible refine gC (f := 5) rfl ?_); (with_reducible refine gD (N := 28) rfl ?_); refine goesY_ (some 28) Try.func5 #[.int .i64 a0, .int .u64 a1, .int .u64 a2] ?_; (with_reducible refine (order_Cmp.calls a0 a1 a2 t197 (some q200) _ A5.out).mono ?_); rintro e w' ⟨rfl, ⟨nd, rfl⟩⟩; refine ⟨_, rfl, ?_⟩; (try simp only [errW_none, errW_some])) | ((with_reducible refine gC (f := 6) rfl ?_); (with_reducible refine gD (N := 32) rfl ?_); refine goesY_ (some 32) Try.func6 #[.int .i64 a0] ?_; (with_reducible refine (vernierref05_Is.calls a0 false _ A6.out).mono ?_); rintro e w' ⟨rfl, ⟨nd, rfl⟩⟩; refine ⟨_, rfl, ?_⟩))
          go_ret
          exact ⟨by first | rfl | (simp [errW_none, errW_some] <;> rfl) | (simp [*, errW_none, errW_some] <;> rfl), by repeat (first | (with_reducible first | exact HB.out | apply pA | apply pN | apply p1) | exact HB.out)⟩
        · rw [if_neg c79] at H
          have c79b0 : (q200 == 2) = false := beq_eq_false_iff_ne.mpr c79
          have c79b1 : (q200 != 2) = true := bne_iff_ne.mpr c79
          obtain rfl := Option.some.inj H
          go_enter Try.func3, Try.ntmps3
          go_wp2_with (first | ((with_reducible refine gC (f := 4) rfl ?_); (with_reducible refine gD (N := 23) rfl ?_); refine goesY_ (some 23) Try.func4 #[] ?_; (with_reducible refine (vernierlaw08_up.calls  true _ A4.out).mono ?_); rintro e w81 ⟨rfl, hb⟩; refine ⟨_, rfl, ?_⟩; have n0_ := Aside0.mk (bS3 HB.out hb); clear HB; have HB := n0_; clear n0_; (try clear hb); (try clear hb2); (try clear hk); (try clear hi)) | ((with_reducible refine gC (f := 5) rfl ?_); (with_reducible refine gD (N := 28) rfl ?_); refine goesY_ (some 28) Try.func5 #[.int .i64 a0, .int .u64 a1, .int .u64 a2] ?_; (with_reducible refine (order_Cmp.calls a0 a1 a2 t197 (some q200) _ A5.out).mono ?_); rintro e w' ⟨rfl, ⟨nd, rfl⟩⟩; refine ⟨_, rfl, ?_⟩; (try simp only [errW_none, errW_some])) | ((with_reducible refine gC (f := 6) rfl ?_); (with_reducible refine gD (N := 32) rfl ?_); refine goesY_ (some 32) Try.func6 #[.int .i64 a0] ?_; (with_reducible refine (vernierref05_Is.calls a0 false _ A6.out).mono ?_); rintro e w' ⟨rfl, ⟨nd, rfl⟩⟩; refine ⟨_, rfl, ?_⟩))
          go_ret
          exact ⟨by first | rfl | (simp [errW_none, errW_some] <;> rfl) | (simp [*, errW_none, errW_some] <;> rfl), by repeat (first | (with_reducible first | exact HB.out | apply pA | apply pN | apply p1) | exact HB.out)⟩
    · replace c77 := Bool.eq_false_iff.mpr c77
      subst c77
      have H1 : (some false) = some r := by rw [if_neg (show ¬ (false = true) by decide)] at H; exact H
      clear H
      have H := H1
      clear H1
      obtain rfl := Option.some.inj H
      go_enter Try.func3, Try.ntmps3
      go_wp2_with (first | ((with_reducible refine gC (f := 4) rfl ?_); (with_reducible refine gD (N := 23) rfl ?_); refine goesY_ (some 23) Try.func4 #[] ?_; (with_reducible refine (vernierlaw08_up.calls  false _ A4.out).mono ?_); rintro e w82 ⟨rfl, hb⟩; refine ⟨_, rfl, ?_⟩; have n0_ := Aside0.mk (bS3 HB.out hb); clear HB; have HB := n0_; clear n0_; (try clear hb); (try clear hb2); (try clear hk); (try clear hi)) | ((with_reducible refine gC (f := 5) rfl ?_); (with_reducible refine gD (N := 28) rfl ?_); refine goesY_ (some 28) Try.func5 #[.int .i64 a0, .int .u64 a1, .int .u64 a2] ?_; (with_reducible refine (order_Cmp.calls a0 a1 a2 t197 t198 _ A5.out).mono ?_); rintro e w' ⟨rfl, ⟨nd, rfl⟩⟩; refine ⟨_, rfl, ?_⟩; (try simp only [errW_none, errW_some])) | ((with_reducible refine gC (f := 6) rfl ?_); (with_reducible refine gD (N := 32) rfl ?_); refine goesY_ (some 32) Try.func6 #[.int .i64 a0] ?_; (with_reducible refine (vernierref05_Is.calls a0 false _ A6.out).mono ?_); rintro e w' ⟨rfl, ⟨nd, rfl⟩⟩; refine ⟨_, rfl, ?_⟩))
      go_ret
      exact ⟨by first | rfl | (simp [errW_none, errW_some] <;> rfl) | (simp [*, errW_none, errW_some] <;> rfl), by repeat (first | (with_reducible first | exact HB.out | apply pA | apply pN | apply p1) | exact HB.out)⟩

/-- THE ONE PURE STATEMENT of vernierlaw08_OrderValues: yours. -/
def vernierlaw08_OrderValues.Pure : Prop := ∀ (a0 : Int) (a1 : Int) (a2 : Int), (Lit.int .i64 a0).wf = true → (Lit.int .u64 a1).wf = true → (Lit.int .u64 a2).wf = true → ∃ k, vernierlaw08_OrderValues.f k a0 a1 a2 = some true
theorem vernierlaw08_OrderValues.walk (P : vernierlaw08_OrderValues.Pure) (a0 : Int) (a1 : Int) (a2 : Int) (w : World) (w0 : (Lit.int .i64 a0).wf = true) (w1 : (Lit.int .u64 a1).wf = true) (w2 : (Lit.int .u64 a2).wf = true) :
    Calls Try.prog 3 #[.int .i64 a0, .int .u64 a1, .int .u64 a2] w fun e w' => e = .returned (.bool true) ∧ Below w.heap.size w w' := by
  obtain ⟨k, h⟩ := P a0 a1 a2 w0 w1 w2
  refine (vernierlaw08_OrderValues.calls k a0 a1 a2 true w h).mono ?_
  rintro e w' ⟨rfl, hd⟩
  exact ⟨rfl, hd⟩

end Go.Proofs.Ytcokamomcnmocaa.F
