/- Functions of the given program as plain Lean functions, and for each a proof that the program's call comes to just these answers; no further conditions. (Written by a program of this repo out of the translation.) -/
import Derived.Test.YtcnpnnodgfpheaaF0
import Derived.Test.YtcnpnnodgfpheaaF1
import Derived.Test.YtcnpnnodgfpheaaF3
import Derived.Test.YtcnpnnodgfpheaaF4
import Derived.Test.YtcnpnnodgfpheaaF5
namespace Go.Proofs.Ytcnpnnodgfpheaa.F
open Go.RowKit Go.Proofs.YtcnpnnodgfpheaaW.PrintWords Go.Proofs.YtcnpnnodgfpheaaW.PrintLast Go.Proofs.YtcnpnnodgfpheaaW.PrintMore
attribute [local go_sem high] xor_u64 xor_u32 eqErr27 neErr27 eqErrL27 neErrL27
attribute [local go_sem] max2_int min2_int max_two min_two max_three min_three max_four min_four   -- for this text's walks alone
set_option linter.unusedVariables false
set_option linter.unusedSimpArgs false

attribute [local go_sem high] eqA24
/-! ### vernierlaw03_PartBack: function 4 -/
mutual
def vernierlaw03_PartBack.j0 : Nat → Int → Int → Int → Int → Option Int → Bool → Int → Int → Int → Int → Option (Bool)
  | 0, _, _, _, _, _, _, _, _, _, _ => none
  | k + 1, x1, x7, x9, x10, x11, x90, x358000, x358001, x364000, x364001 => if x90 = true then (some false) else (if x11.isNone = true then (if (!(x364000 == 0) || (!(x364001 == x9))) = true then (vernierlaw03_PartBack.j1 k x1 x7 true x358000 x358001 x364000 x364001) else (if x10 = x7 then (vernierlaw03_PartBack.j1 k x1 x7 false x358000 x358001 x364000 x364001) else (vernierlaw03_PartBack.j1 k x1 x7 true x358000 x358001 x364000 x364001))) else (if (x11.getD 0) = 5 then (vernierlaw03_PartBack.j1 k x1 x7 (x364000 == 0) x358000 x358001 x364000 x364001) else (vernierlaw03_PartBack.j1 k x1 x7 true x358000 x358001 x364000 x364001)))
def vernierlaw03_PartBack.j1 : Nat → Int → Int → Bool → Int → Int → Int → Int → Option (Bool)
  | 0, _, _, _, _, _, _, _ => none
  | k + 1, x1, x7, x117, x358000, x358001, x364000, x364001 => if x117 = true then (some false) else ((twin_Mul.f x364000 x1).bind fun bt380 => ((twin_Mul.f x364001 x1).bind fun bt383 => ((twin_Shl.f k bt380.1 bt380.2 64).bind fun bt386 => ((twin_Add.f bt386.1 bt386.2.1 bt383.1 bt383.2).bind fun bt391 => ((twin_Add.f bt391.1 bt391.2.1 0 x7).bind fun bt395 => (if bt386.2.2.1 = true then (some false) else (if bt386.2.2.2.isNone = true then (if bt391.2.2 = true then (some false) else (if bt395.2.2 = true then (some false) else (some (bt395.1 == x358000 && (bt395.2.1 == x358001))))) else (some false))))))))
end
def vernierlaw03_PartBack.f (k : Nat) (a0_0 : Int) (a0_1 : Int) (a1 : Int) : Option (Bool) := (vernierlaw03_up.f k).bind fun t358 => ((part_Long.f k a0_0 a0_1 a1).bind fun bt359 => ((part_Div.f k a0_0 a0_1 a1).bind fun bt364 => ((part_Wide.f k a0_0 a0_1 0 a1).bind fun bt367 => (if a1 = 0 then (if t358 = true then (if bt359.2.2.2.isNone = true then (some false) else (if (bt359.2.2.2.getD 0) = 4 then (if bt364.2.2.isNone = true then (some false) else (if (bt364.2.2.getD 0) = 4 then (if bt367.2.2.2.2.isNone = true then (some false) else (some ((bt367.2.2.2.2.getD 0) == 4))) else (some false))) else (some false))) else (some false)) else (if t358 = true then (if bt359.2.2.2.isNone = true then (if bt367.2.2.2.2.isNone = true then (if (!(bt367.1 == bt359.1) || (!(bt367.2.1 == bt359.2.1))) = true then (vernierlaw03_PartBack.j0 k a1 bt359.2.2.1 bt364.1 bt364.2.1 bt364.2.2 true a0_0 a0_1 bt359.1 bt359.2.1) else (if (!(bt367.2.2.1 == 0) || (!(bt367.2.2.2.1 == bt359.2.2.1))) = true then (vernierlaw03_PartBack.j0 k a1 bt359.2.2.1 bt364.1 bt364.2.1 bt364.2.2 true a0_0 a0_1 bt359.1 bt359.2.1) else (vernierlaw03_PartBack.j0 k a1 bt359.2.2.1 bt364.1 bt364.2.1 bt364.2.2 (decide (bt359.2.2.1 ≥ a1)) a0_0 a0_1 bt359.1 bt359.2.1))) else (vernierlaw03_PartBack.j0 k a1 bt359.2.2.1 bt364.1 bt364.2.1 bt364.2.2 true a0_0 a0_1 bt359.1 bt359.2.1)) else (vernierlaw03_PartBack.j0 k a1 bt359.2.2.1 bt364.1 bt364.2.1 bt364.2.2 true a0_0 a0_1 bt359.1 bt359.2.1)) else (vernierlaw03_PartBack.j0 k a1 bt359.2.2.1 bt364.1 bt364.2.1 bt364.2.2 true a0_0 a0_1 bt359.1 bt359.2.1))))))
theorem vernierlaw03_PartBack.mono_l : ∀ k, (∀ y0 y1 y2 y3 y4 y5 y6 y7 y8 y9, LeO (vernierlaw03_PartBack.j0 k y0 y1 y2 y3 y4 y5 y6 y7 y8 y9) (vernierlaw03_PartBack.j0 (k + 1) y0 y1 y2 y3 y4 y5 y6 y7 y8 y9)) ∧ (∀ y0 y1 y2 y3 y4 y5 y6, LeO (vernierlaw03_PartBack.j1 k y0 y1 y2 y3 y4 y5 y6) (vernierlaw03_PartBack.j1 (k + 1) y0 y1 y2 y3 y4 y5 y6))
  | 0 => ⟨fun _ _ _ _ _ _ _ _ _ _ r h => by simp [vernierlaw03_PartBack.j0] at h, fun _ _ _ _ _ _ _ r h => by simp [vernierlaw03_PartBack.j1] at h⟩
  | k + 1 => by
    obtain ⟨ih0, ih1⟩ := vernierlaw03_PartBack.mono_l k
    refine ⟨?_, ?_⟩
    · intro y0 y1 y2 y3 y4 y5 y6 y7 y8 y9
      unfold vernierlaw03_PartBack.j0
      repeat' first
      | (with_reducible exact ih0 _ _ _ _ _ _ _ _ _ _)
      | (with_reducible exact ih1 _ _ _ _ _ _ _)
      | (with_reducible exact part_Div.mono _ _ _ _)
      | (with_reducible exact part_Long.mono _ _ _ _)
      | (with_reducible exact part_Wide.mono _ _ _ _ _)
      | (with_reducible exact twin_Shl.mono _ _ _ _)
      | (with_reducible exact vernierlaw03_up.mono _)
      | (with_reducible exact LeO.refl _)
      | (with_reducible exact LeO.none _)
      | (with_reducible refine LeO.ite ?_ ?_)
      | (with_reducible refine LeO.bind ?_ (fun _ => ?_))
      | exact ih0 _ _ _ _ _ _ _ _ _ _
      | exact ih1 _ _ _ _ _ _ _
      | exact part_Div.mono _ _ _ _
      | exact part_Long.mono _ _ _ _
      | exact part_Wide.mono _ _ _ _ _
      | exact twin_Shl.mono _ _ _ _
      | exact vernierlaw03_up.mono _
      | exact LeO.none _
      | refine LeO.ite ?_ ?_
      | refine LeO.bind ?_ (fun _ => ?_)
    · intro y0 y1 y2 y3 y4 y5 y6
      unfold vernierlaw03_PartBack.j1
      repeat' first
      | (with_reducible exact ih0 _ _ _ _ _ _ _ _ _ _)
      | (with_reducible exact ih1 _ _ _ _ _ _ _)
      | (with_reducible exact part_Div.mono _ _ _ _)
      | (with_reducible exact part_Long.mono _ _ _ _)
      | (with_reducible exact part_Wide.mono _ _ _ _ _)
      | (with_reducible exact twin_Shl.mono _ _ _ _)
      | (with_reducible exact vernierlaw03_up.mono _)
      | (with_reducible exact LeO.refl _)
      | (with_reducible exact LeO.none _)
      | (with_reducible refine LeO.ite ?_ ?_)
      | (with_reducible refine LeO.bind ?_ (fun _ => ?_))
      | exact ih0 _ _ _ _ _ _ _ _ _ _
      | exact ih1 _ _ _ _ _ _ _
      | exact part_Div.mono _ _ _ _
      | exact part_Long.mono _ _ _ _
      | exact part_Wide.mono _ _ _ _ _
      | exact twin_Shl.mono _ _ _ _
      | exact vernierlaw03_up.mono _
      | exact LeO.none _
      | refine LeO.ite ?_ ?_
      | refine LeO.bind ?_ (fun _ => ?_)
theorem vernierlaw03_PartBack.mono : ∀ a0 a1 a2 k, LeO (vernierlaw03_PartBack.f k a0 a1 a2) (vernierlaw03_PartBack.f (k + 1) a0 a1 a2) := by
  intro a0 a1 a2 k
  obtain ⟨ih0, ih1⟩ := vernierlaw03_PartBack.mono_l k
  unfold vernierlaw03_PartBack.f
  repeat' first
      | (with_reducible exact ih0 _ _ _ _ _ _ _ _ _ _)
      | (with_reducible exact ih1 _ _ _ _ _ _ _)
      | (with_reducible exact part_Div.mono _ _ _ _)
      | (with_reducible exact part_Long.mono _ _ _ _)
      | (with_reducible exact part_Wide.mono _ _ _ _ _)
      | (with_reducible exact twin_Shl.mono _ _ _ _)
      | (with_reducible exact vernierlaw03_up.mono _)
      | (with_reducible exact LeO.refl _)
      | (with_reducible exact LeO.none _)
      | (with_reducible refine LeO.ite ?_ ?_)
      | (with_reducible refine LeO.bind ?_ (fun _ => ?_))
      | exact ih0 _ _ _ _ _ _ _ _ _ _
      | exact ih1 _ _ _ _ _ _ _
      | exact part_Div.mono _ _ _ _
      | exact part_Long.mono _ _ _ _
      | exact part_Wide.mono _ _ _ _ _
      | exact twin_Shl.mono _ _ _ _
      | exact vernierlaw03_up.mono _
      | exact LeO.none _
      | refine LeO.ite ?_ ?_
      | refine LeO.bind ?_ (fun _ => ?_)
set_option maxHeartbeats 8000000 in
set_option maxRecDepth 100000 in
theorem vernierlaw03_PartBack.calls (k : Nat) (a0_0 : Int) (a0_1 : Int) (a1 : Int) (r : Bool) (w : World) (h : vernierlaw03_PartBack.f k a0_0 a0_1 a1 = some r) :
    Calls Try.prog 4 #[.agg #[.int .u64 a0_0, .int .u64 a0_1], .int .u64 a1] w fun e w' => e = .returned (.bool r) ∧ Below w.heap.size w w' := by
  have hu24 := Try.underlying24
  have hu27 := Try.underlying27
  have hu38 := Try.underlying38
  have HB := aM (Below.refl w.heap.size w)
  have H : ((vernierlaw03_up.f k).bind fun t358 => ((part_Long.f k a0_0 a0_1 a1).bind fun bt359 => ((part_Div.f k a0_0 a0_1 a1).bind fun bt364 => ((part_Wide.f k a0_0 a0_1 0 a1).bind fun bt367 => (if a1 = 0 then (if t358 = true then (if bt359.2.2.2.isNone = true then (some false) else (if (bt359.2.2.2.getD 0) = 4 then (if bt364.2.2.isNone = true then (some false) else (if (bt364.2.2.getD 0) = 4 then (if bt367.2.2.2.2.isNone = true then (some false) else (some ((bt367.2.2.2.2.getD 0) == 4))) else (some false))) else (some false))) else (some false)) else (if t358 = true then (if bt359.2.2.2.isNone = true then (if bt367.2.2.2.2.isNone = true then (if (!(bt367.1 == bt359.1) || (!(bt367.2.1 == bt359.2.1))) = true then (vernierlaw03_PartBack.j0 k a1 bt359.2.2.1 bt364.1 bt364.2.1 bt364.2.2 true a0_0 a0_1 bt359.1 bt359.2.1) else (if (!(bt367.2.2.1 == 0) || (!(bt367.2.2.2.1 == bt359.2.2.1))) = true then (vernierlaw03_PartBack.j0 k a1 bt359.2.2.1 bt364.1 bt364.2.1 bt364.2.2 true a0_0 a0_1 bt359.1 bt359.2.1) else (vernierlaw03_PartBack.j0 k a1 bt359.2.2.1 bt364.1 bt364.2.1 bt364.2.2 (decide (bt359.2.2.1 ≥ a1)) a0_0 a0_1 bt359.1 bt359.2.1))) else (vernierlaw03_PartBack.j0 k a1 bt359.2.2.1 bt364.1 bt364.2.1 bt364.2.2 true a0_0 a0_1 bt359.1 bt359.2.1)) else (vernierlaw03_PartBack.j0 k a1 bt359.2.2.1 bt364.1 bt364.2.1 bt364.2.2 true a0_0 a0_1 bt359.1 bt359.2.1)) else (vernierlaw03_PartBack.j0 k a1 bt359.2.2.1 bt364.1 bt364.2.1 bt364.2.2 true a0_0 a0_1 bt359.1 bt359.2.1))))))) = some r := h
  clear h
  replace H := Option.bind_eq_some_iff.mp H
  obtain ⟨t358, A30, H⟩ := H
  replace H : ((part_Long.f k a0_0 a0_1 a1).bind fun bt359 => ((part_Div.f k a0_0 a0_1 a1).bind fun bt364 => ((part_Wide.f k a0_0 a0_1 0 a1).bind fun bt367 => (if a1 = 0 then (if t358 = true then (if bt359.2.2.2.isNone = true then (some false) else (if (bt359.2.2.2.getD 0) = 4 then (if bt364.2.2.isNone = true then (some false) else (if (bt364.2.2.getD 0) = 4 then (if bt367.2.2.2.2.isNone = true then (some false) else (some ((bt367.2.2.2.2.getD 0) == 4))) else (some false))) else (some false))) else (some false)) else (if t358 = true then (if bt359.2.2.2.isNone = true then (if bt367.2.2.2.2.isNone = true then (if (!(bt367.1 == bt359.1) || (!(bt367.2.1 == bt359.2.1))) = true then (vernierlaw03_PartBack.j0 k a1 bt359.2.2.1 bt364.1 bt364.2.1 bt364.2.2 true a0_0 a0_1 bt359.1 bt359.2.1) else (if (!(bt367.2.2.1 == 0) || (!(bt367.2.2.2.1 == bt359.2.2.1))) = true then (vernierlaw03_PartBack.j0 k a1 bt359.2.2.1 bt364.1 bt364.2.1 bt364.2.2 true a0_0 a0_1 bt359.1 bt359.2.1) else (vernierlaw03_PartBack.j0 k a1 bt359.2.2.1 bt364.1 bt364.2.1 bt364.2.2 (decide (bt359.2.2.1 ≥ a1)) a0_0 a0_1 bt359.1 bt359.2.1))) else (vernierlaw03_PartBack.j0 k a1 bt359.2.2.1 bt364.1 bt364.2.1 bt364.2.2 true a0_0 a0_1 bt359.1 bt359.2.1)) else (vernierlaw03_PartBack.j0 k a1 bt359.2.2.1 bt364.1 bt364.2.1 bt364.2.2 true a0_0 a0_1 bt359.1 bt359.2.1)) else (vernierlaw03_PartBack.j0 k a1 bt359.2.2.1 bt364.1 bt364.2.1 bt364.2.2 true a0_0 a0_1 bt359.1 bt359.2.1)))))) = some r := H
  have A3 := aM A30
  clear A30
  replace H := Option.bind_eq_some_iff.mp H
  obtain ⟨⟨t359, t360, t361, t362⟩, A40, H⟩ := H
  replace H : ((part_Div.f k a0_0 a0_1 a1).bind fun bt364 => ((part_Wide.f k a0_0 a0_1 0 a1).bind fun bt367 => (if a1 = 0 then (if t358 = true then (if t362.isNone = true then (some false) else (if (t362.getD 0) = 4 then (if bt364.2.2.isNone = true then (some false) else (if (bt364.2.2.getD 0) = 4 then (if bt367.2.2.2.2.isNone = true then (some false) else (some ((bt367.2.2.2.2.getD 0) == 4))) else (some false))) else (some false))) else (some false)) else (if t358 = true then (if t362.isNone = true then (if bt367.2.2.2.2.isNone = true then (if (!(bt367.1 == t359) || (!(bt367.2.1 == t360))) = true then (vernierlaw03_PartBack.j0 k a1 t361 bt364.1 bt364.2.1 bt364.2.2 true a0_0 a0_1 t359 t360) else (if (!(bt367.2.2.1 == 0) || (!(bt367.2.2.2.1 == t361))) = true then (vernierlaw03_PartBack.j0 k a1 t361 bt364.1 bt364.2.1 bt364.2.2 true a0_0 a0_1 t359 t360) else (vernierlaw03_PartBack.j0 k a1 t361 bt364.1 bt364.2.1 bt364.2.2 (decide (t361 ≥ a1)) a0_0 a0_1 t359 t360))) else (vernierlaw03_PartBack.j0 k a1 t361 bt364.1 bt364.2.1 bt364.2.2 true a0_0 a0_1 t359 t360)) else (vernierlaw03_PartBack.j0 k a1 t361 bt364.1 bt364.2.1 bt364.2.2 true a0_0 a0_1 t359 t360)) else (vernierlaw03_PartBack.j0 k a1 t361 bt364.1 bt364.2.1 bt364.2.2 true a0_0 a0_1 t359 t360))))) = some r := H
  have A4 := aM A40
  clear A40
  replace H := Option.bind_eq_some_iff.mp H
  obtain ⟨⟨t364, t365, t366⟩, A50, H⟩ := H
  replace H : ((part_Wide.f k a0_0 a0_1 0 a1).bind fun bt367 => (if a1 = 0 then (if t358 = true then (if t362.isNone = true then (some false) else (if (t362.getD 0) = 4 then (if t366.isNone = true then (some false) else (if (t366.getD 0) = 4 then (if bt367.2.2.2.2.isNone = true then (some false) else (some ((bt367.2.2.2.2.getD 0) == 4))) else (some false))) else (some false))) else (some false)) else (if t358 = true then (if t362.isNone = true then (if bt367.2.2.2.2.isNone = true then (if (!(bt367.1 == t359) || (!(bt367.2.1 == t360))) = true then (vernierlaw03_PartBack.j0 k a1 t361 t364 t365 t366 true a0_0 a0_1 t359 t360) else (if (!(bt367.2.2.1 == 0) || (!(bt367.2.2.2.1 == t361))) = true then (vernierlaw03_PartBack.j0 k a1 t361 t364 t365 t366 true a0_0 a0_1 t359 t360) else (vernierlaw03_PartBack.j0 k a1 t361 t364 t365 t366 (decide (t361 ≥ a1)) a0_0 a0_1 t359 t360))) else (vernierlaw03_PartBack.j0 k a1 t361 t364 t365 t366 true a0_0 a0_1 t359 t360)) else (vernierlaw03_PartBack.j0 k a1 t361 t364 t365 t366 true a0_0 a0_1 t359 t360)) else (vernierlaw03_PartBack.j0 k a1 t361 t364 t365 t366 true a0_0 a0_1 t359 t360)))) = some r := H
  have A5 := aM A50
  clear A50
  replace H := Option.bind_eq_some_iff.mp H
  obtain ⟨⟨t367, t368, t369, t370, t371⟩, A60, H⟩ := H
  replace H : (if a1 = 0 then (if t358 = true then (if t362.isNone = true then (some false) else (if (t362.getD 0) = 4 then (if t366.isNone = true then (some false) else (if (t366.getD 0) = 4 then (if t371.isNone = true then (some false) else (some ((t371.getD 0) == 4))) else (some false))) else (some false))) else (some false)) else (if t358 = true then (if t362.isNone = true then (if t371.isNone = true then (if (!(t367 == t359) || (!(t368 == t360))) = true then (vernierlaw03_PartBack.j0 k a1 t361 t364 t365 t366 true a0_0 a0_1 t359 t360) else (if (!(t369 == 0) || (!(t370 == t361))) = true then (vernierlaw03_PartBack.j0 k a1 t361 t364 t365 t366 true a0_0 a0_1 t359 t360) else (vernierlaw03_PartBack.j0 k a1 t361 t364 t365 t366 (decide (t361 ≥ a1)) a0_0 a0_1 t359 t360))) else (vernierlaw03_PartBack.j0 k a1 t361 t364 t365 t366 true a0_0 a0_1 t359 t360)) else (vernierlaw03_PartBack.j0 k a1 t361 t364 t365 t366 true a0_0 a0_1 t359 t360)) else (vernierlaw03_PartBack.j0 k a1 t361 t364 t365 t366 true a0_0 a0_1 t359 t360))) = some r := H
  have A6 := aM A60
  clear A60
  by_cases c7 : a1 = 0
  · rw [if_pos c7] at H
    have c7b0 : (a1 == 0) = true := beq_iff_eq.mpr c7
    have c7b1 : (a1 != 0) = false := bne_eq_false_iff_eq.mpr c7
    clear c7
    by_cases c8 : t358 = true
    · subst c8
      have H1 : (if t362.isNone = true then (some false) else (if (t362.getD 0) = 4 then (if t366.isNone = true then (some false) else (if (t366.getD 0) = 4 then (if t371.isNone = true then (some false) else (some ((t371.getD 0) == 4))) else (some false))) else (some false))) = some r := by rw [if_pos rfl] at H; exact H
      clear H
      have H := H1
      clear H1
      rcases t362 with _ | q374
      · have H1 : (some false) = some r := by rw [if_pos (show (none : Option Int).isNone = true by rfl)] at H; exact H
        clear H
        have H := H1
        clear H1
        try simp only [errW_none, errW_some]
        obtain rfl := Option.some.inj H
        go_enter Try.func4, Try.ntmps4
        go_wp2_with (first | ((with_reducible refine gD (N := 2) rfl ?_); refine bE3 2 #[.int .u64 a0_0, .int .u64 a0_1] 24 ?hr ?_; (case hr => first | (go_simp; done) | (go_simp; rfl)); intro gb357 hg w9 hbox hb; have n0_ := aM (bS3 HB.out hb); have n1_ := aM (hbox); have n2_ := aM ((bZ3 hg HB.out)); have n3_ := aM ((bZ3 hg HB.out)); clear HB; have HB := n0_; have BK357 := n1_; have GW357 := n2_; have GE357 := n3_; clear n0_ n1_ n2_ n3_; clear hb hbox hg) | ((with_reducible refine gC (f := 5) rfl ?_); refine gY (some 24) Try.func5 #[] ?_; (with_reducible refine (vernierlaw03_up.calls k  true _ A3.out).mono ?_); rintro e w10 ⟨rfl, hb⟩; refine ⟨_, rfl, ?_⟩; have n0_ := aM (bB3 BK357.out hb); have n1_ := aM (bS3 HB.out hb); clear BK357; clear HB; have BK357 := n0_; have HB := n1_; clear n0_ n1_; (try clear hb); have hcz11_0 := blk_cellL BK357.out 0 _ rfl; have hcz11_1 := blk_cellL BK357.out 1 _ rfl; have hfz11_0 := bF BK357.out 0; have hfz11_1 := bF BK357.out 1) | ((with_reducible refine gC (f := 9) rfl ?_); refine gY (some 28) Try.func9 #[.agg #[.int .u64 a0_0, .int .u64 a0_1], .int .u64 a1] ?_; (with_reducible refine (part_Long.calls k a0_0 a0_1 a1 t359 t360 t361 none _ A4.out).mono ?_); rintro e w12 ⟨rfl, hb⟩; refine ⟨_, rfl, ?_⟩; have n0_ := aM (bB3 BK357.out hb); have n1_ := aM (bS3 HB.out hb); clear BK357; clear HB; have BK357 := n0_; have HB := n1_; clear n0_ n1_; (try clear hb); (try simp only [errW_none, errW_some])) | ((with_reducible refine gD (N := 6) rfl ?_); refine bE3 6 #[.int .u64 0, .int .u64 0] 24 ?hr ?_; (case hr => first | (go_simp; done) | (go_simp; rfl)); intro gb363 hg w13 hbox hb; have n0_ := aM (bB3 BK357.out hb); have n1_ := aM (bS3 HB.out hb); have n2_ := aM (hbox); have n3_ := aM ((bZ3 hg HB.out)); have n4_ := aM ((bZ3 hg HB.out)); have n5_ := aM ((bL3 hg BK357.out)); have n6_ := aM ((bG3 hg BK357.out)); clear BK357; clear HB; have BK357 := n0_; have HB := n1_; have BK363 := n2_; have GW363 := n3_; have GE363 := n4_; have NB357_363 := n5_; have NB363_357 := n6_; clear n0_ n1_ n2_ n3_ n4_ n5_ n6_; clear hb hbox hg; have hnb14 := NB363_357.out; have hnc14 := NB357_363.out; have hcz15_0 := blk_cellL BK363.out 0 _ rfl; have hcz15_1 := blk_cellL BK363.out 1 _ rfl; have hfz15_0 := bF BK363.out 0; have hfz15_1 := bF BK363.out 1; have hcz16_0 := blk_cellL BK357.out 0 _ rfl; have hcz16_1 := blk_cellL BK357.out 1 _ rfl; have hfz16_0 := bF BK357.out 0; have hfz16_1 := bF BK357.out 1) | ((with_reducible refine gC (f := 10) rfl ?_); refine gY (some 35) Try.func10 #[.agg #[.int .u64 a0_0, .int .u64 a0_1], .int .u64 a1] ?_; (with_reducible refine (part_Div.calls k a0_0 a0_1 a1 t364 t365 t366 _ A5.out).mono ?_); rintro e w17 ⟨rfl, hb⟩; refine ⟨_, rfl, ?_⟩; have n0_ := aM (bB (g := gb357) (o := .cells #[.int .u64 a0_0, .int .u64 a0_1] 24 (0, 0)) (by (with_reducible repeat (first | refine bN ?_ _ | refine bD ?_ | refine bA ?_ _)); refine blk_far ?_ NB357_363.out _; (with_reducible repeat (first | refine bN ?_ _ | refine bD ?_ | refine bA ?_ _)); refine blk_far ?_ NB357_363.out _; (with_reducible repeat (first | refine bN ?_ _ | refine bD ?_ | refine bA ?_ _)); exact BK357.out) hb); have n1_ := aM (bB (g := gb363) (o := .cells #[.int .u64 t359, .int .u64 t360] 24 (0, 0)) (by (with_reducible repeat (first | refine bN ?_ _ | refine bD ?_ | refine bA ?_ _)); refine blk_put (cs := #[.int .u64 t359, .int .u64 0]) ?_ 1 _ rfl; (with_reducible repeat (first | refine bN ?_ _ | refine bD ?_ | refine bA ?_ _)); refine blk_put (cs := #[.int .u64 0, .int .u64 0]) ?_ 0 _ rfl; (with_reducible repeat (first | refine bN ?_ _ | refine bD ?_ | refine bA ?_ _)); exact BK363.out) hb); have n2_ := aM (bS3 HB.out hb); clear BK357; clear BK363; clear HB; have BK357 := n0_; have BK363 := n1_; have HB := n2_; clear n0_ n1_ n2_; (try clear hb); (try simp only [errW_none, errW_some]); have hcz18_0 := blk_cellL BK357.out 0 _ rfl; have hcz18_1 := blk_cellL BK357.out 1 _ rfl; have hfz18_0 := bF BK357.out 0; have hfz18_1 := bF BK357.out 1) | ((with_reducible refine gC (f := 6) rfl ?_); refine gY (some 43) Try.func6 #[.agg #[.int .u64 a0_0, .int .u64 a0_1], .agg #[.int .u64 0, .int .u64 a1]] ?_; (with_reducible refine (part_Wide.calls k a0_0 a0_1 0 a1 t367 t368 t369 t370 t371 _ A6.out).mono ?_); rintro e w19 ⟨rfl, hb⟩; refine ⟨_, rfl, ?_⟩; have n0_ := aM (bB3 BK357.out hb); have n1_ := aM (bB3 BK363.out hb); have n2_ := aM (bS3 HB.out hb); clear BK357; clear BK363; clear HB; have BK357 := n0_; have BK363 := n1_; have HB := n2_; clear n0_ n1_ n2_; (try clear hb); (try simp only [errW_none, errW_some])) | ((with_reducible refine gD (N := 12) rfl ?_); refine bE3 12 #[.int .u64 0, .int .u64 0] 24 ?hr ?_; (case hr => first | (go_simp; done) | (go_simp; rfl)); intro gb372 hg w20 hbox hb; have n0_ := aM (bB3 BK357.out hb); have n1_ := aM (bB3 BK363.out hb); have n2_ := aM (bS3 HB.out hb); have n3_ := aM (hbox); have n4_ := aM ((bZ3 hg HB.out)); have n5_ := aM ((bZ3 hg HB.out)); have n6_ := aM ((bL3 hg BK357.out)); have n7_ := aM ((bG3 hg BK357.out)); have n8_ := aM ((bL3 hg BK363.out)); have n9_ := aM ((bG3 hg BK363.out)); clear BK357; clear BK363; clear HB; have BK357 := n0_; have BK363 := n1_; have HB := n2_; have BK372 := n3_; have GW372 := n4_; have GE372 := n5_; have NB357_372 := n6_; have NB372_357 := n7_; have NB363_372 := n8_; have NB372_363 := n9_; clear n0_ n1_ n2_ n3_ n4_ n5_ n6_ n7_ n8_ n9_; clear hb hbox hg) | ((with_reducible refine gD (N := 13) rfl ?_); refine bE3 13 #[.int .u64 0, .int .u64 0] 24 ?hr ?_; (case hr => first | (go_simp; done) | (go_simp; rfl)); intro gb373 hg w21 hbox hb; have n0_ := aM (bB3 BK357.out hb); have n1_ := aM (bB3 BK363.out hb); have n2_ := aM (bB3 BK372.out hb); have n3_ := aM (bS3 HB.out hb); have n4_ := aM (hbox); have n5_ := aM ((bZ3 hg HB.out)); have n6_ := aM ((bZ3 hg HB.out)); have n7_ := aM ((bL3 hg BK357.out)); have n8_ := aM ((bG3 hg BK357.out)); have n9_ := aM ((bL3 hg BK363.out)); have n10_ := aM ((bG3 hg BK363.out)); have n11_ := aM ((bL3 hg BK372.out)); have n12_ := aM ((bG3 hg BK372.out)); clear BK357; clear BK363; clear BK372; clear HB; have BK357 := n0_; have BK363 := n1_; have BK372 := n2_; have HB := n3_; have BK373 := n4_; have GW373 := n5_; have GE373 := n6_; have NB357_373 := n7_; have NB373_357 := n8_; have NB363_373 := n9_; have NB373_363 := n10_; have NB372_373 := n11_; have NB373_372 := n12_; clear n0_ n1_ n2_ n3_ n4_ n5_ n6_ n7_ n8_ n9_ n10_ n11_ n12_; clear hb hbox hg; have hnb22 := NB372_357.out; have hnc22 := NB357_372.out; have hnb23 := NB372_363.out; have hnc23 := NB363_372.out; have hnb24 := NB372_373.out; have hnc24 := NB373_372.out; have hcz25_0 := blk_cellL BK372.out 0 _ rfl; have hcz25_1 := blk_cellL BK372.out 1 _ rfl; have hfz25_0 := bF BK372.out 0; have hfz25_1 := bF BK372.out 1; have hnb26 := NB373_357.out; have hnc26 := NB357_373.out; have hnb27 := NB373_363.out; have hnc27 := NB363_373.out; have hcz28_0 := blk_cellL BK373.out 0 _ rfl; have hcz28_1 := blk_cellL BK373.out 1 _ rfl; have hfz28_0 := bF BK373.out 0; have hfz28_1 := bF BK373.out 1))
        go_ret
        exact ⟨by first | rfl | (simp [errW_none, errW_some] <;> rfl) | (simp [*, errW_none, errW_some] <;> rfl), by repeat (first | (with_reducible first | exact HB.out | apply pA | apply pN | apply p1 | refine pS ?_ GE357.out | refine pS ?_ GE363.out | refine pS ?_ GE372.out | refine pS ?_ GE373.out) | exact HB.out)⟩
      · have H1 : (if q374 = 4 then (if t366.isNone = true then (some false) else (if (t366.getD 0) = 4 then (if t371.isNone = true then (some false) else (some ((t371.getD 0) == 4))) else (some false))) else (some false)) = some r := by rw [if_neg (show ¬ (some q374).isNone = true by simp)] at H; exact H
        clear H
        have H := H1
        clear H1
        try simp only [errW_none, errW_some]
        by_cases c29 : q374 = 4
        · rw [if_pos c29] at H
          have c29b0 : (q374 == 4) = true := beq_iff_eq.mpr c29
          have c29b1 : (q374 != 4) = false := bne_eq_false_iff_eq.mpr c29
          clear c29
          rcases t366 with _ | q375
          · have H1 : (some false) = some r := by rw [if_pos (show (none : Option Int).isNone = true by rfl)] at H; exact H
            clear H
            have H := H1
            clear H1
            try simp only [errW_none, errW_some]
            obtain rfl := Option.some.inj H
            go_enter Try.func4, Try.ntmps4
            go_wp2_with (first | ((with_reducible refine gD (N := 2) rfl ?_); refine bE3 2 #[.int .u64 a0_0, .int .u64 a0_1] 24 ?hr ?_; (case hr => first | (go_simp; done) | (go_simp; rfl)); intro gb357 hg w30 hbox hb; have n0_ := aM (bS3 HB.out hb); have n1_ := aM (hbox); have n2_ := aM ((bZ3 hg HB.out)); have n3_ := aM ((bZ3 hg HB.out)); clear HB; have HB := n0_; have BK357 := n1_; have GW357 := n2_; have GE357 := n3_; clear n0_ n1_ n2_ n3_; clear hb hbox hg) | ((with_reducible refine gC (f := 5) rfl ?_); refine gY (some 24) Try.func5 #[] ?_; (with_reducible refine (vernierlaw03_up.calls k  true _ A3.out).mono ?_); rintro e w31 ⟨rfl, hb⟩; refine ⟨_, rfl, ?_⟩; have n0_ := aM (bB3 BK357.out hb); have n1_ := aM (bS3 HB.out hb); clear BK357; clear HB; have BK357 := n0_; have HB := n1_; clear n0_ n1_; (try clear hb); have hcz32_0 := blk_cellL BK357.out 0 _ rfl; have hcz32_1 := blk_cellL BK357.out 1 _ rfl; have hfz32_0 := bF BK357.out 0; have hfz32_1 := bF BK357.out 1) | ((with_reducible refine gC (f := 9) rfl ?_); refine gY (some 28) Try.func9 #[.agg #[.int .u64 a0_0, .int .u64 a0_1], .int .u64 a1] ?_; (with_reducible refine (part_Long.calls k a0_0 a0_1 a1 t359 t360 t361 (some q374) _ A4.out).mono ?_); rintro e w33 ⟨rfl, hb⟩; refine ⟨_, rfl, ?_⟩; have n0_ := aM (bB3 BK357.out hb); have n1_ := aM (bS3 HB.out hb); clear BK357; clear HB; have BK357 := n0_; have HB := n1_; clear n0_ n1_; (try clear hb); (try simp only [errW_none, errW_some])) | ((with_reducible refine gD (N := 6) rfl ?_); refine bE3 6 #[.int .u64 0, .int .u64 0] 24 ?hr ?_; (case hr => first | (go_simp; done) | (go_simp; rfl)); intro gb363 hg w34 hbox hb; have n0_ := aM (bB3 BK357.out hb); have n1_ := aM (bS3 HB.out hb); have n2_ := aM (hbox); have n3_ := aM ((bZ3 hg HB.out)); have n4_ := aM ((bZ3 hg HB.out)); have n5_ := aM ((bL3 hg BK357.out)); have n6_ := aM ((bG3 hg BK357.out)); clear BK357; clear HB; have BK357 := n0_; have HB := n1_; have BK363 := n2_; have GW363 := n3_; have GE363 := n4_; have NB357_363 := n5_; have NB363_357 := n6_; clear n0_ n1_ n2_ n3_ n4_ n5_ n6_; clear hb hbox hg; have hnb35 := NB363_357.out; have hnc35 := NB357_363.out; have hcz36_0 := blk_cellL BK363.out 0 _ rfl; have hcz36_1 := blk_cellL BK363.out 1 _ rfl; have hfz36_0 := bF BK363.out 0; have hfz36_1 := bF BK363.out 1; have hcz37_0 := blk_cellL BK357.out 0 _ rfl; have hcz37_1 := blk_cellL BK357.out 1 _ rfl; have hfz37_0 := bF BK357.out 0; have hfz37_1 := bF BK357.out 1) | ((with_reducible refine gC (f := 10) rfl ?_); refine gY (some 35) Try.func10 #[.agg #[.int .u64 a0_0, .int .u64 a0_1], .int .u64 a1] ?_; (with_reducible refine (part_Div.calls k a0_0 a0_1 a1 t364 t365 none _ A5.out).mono ?_); rintro e w38 ⟨rfl, hb⟩; refine ⟨_, rfl, ?_⟩; have n0_ := aM (bB (g := gb357) (o := .cells #[.int .u64 a0_0, .int .u64 a0_1] 24 (0, 0)) (by (with_reducible repeat (first | refine bN ?_ _ | refine bD ?_ | refine bA ?_ _)); refine blk_far ?_ NB357_363.out _; (with_reducible repeat (first | refine bN ?_ _ | refine bD ?_ | refine bA ?_ _)); refine blk_far ?_ NB357_363.out _; (with_reducible repeat (first | refine bN ?_ _ | refine bD ?_ | refine bA ?_ _)); exact BK357.out) hb); have n1_ := aM (bB (g := gb363) (o := .cells #[.int .u64 t359, .int .u64 t360] 24 (0, 0)) (by (with_reducible repeat (first | refine bN ?_ _ | refine bD ?_ | refine bA ?_ _)); refine blk_put (cs := #[.int .u64 t359, .int .u64 0]) ?_ 1 _ rfl; (with_reducible repeat (first | refine bN ?_ _ | refine bD ?_ | refine bA ?_ _)); refine blk_put (cs := #[.int .u64 0, .int .u64 0]) ?_ 0 _ rfl; (with_reducible repeat (first | refine bN ?_ _ | refine bD ?_ | refine bA ?_ _)); exact BK363.out) hb); have n2_ := aM (bS3 HB.out hb); clear BK357; clear BK363; clear HB; have BK357 := n0_; have BK363 := n1_; have HB := n2_; clear n0_ n1_ n2_; (try clear hb); (try simp only [errW_none, errW_some]); have hcz39_0 := blk_cellL BK357.out 0 _ rfl; have hcz39_1 := blk_cellL BK357.out 1 _ rfl; have hfz39_0 := bF BK357.out 0; have hfz39_1 := bF BK357.out 1) | ((with_reducible refine gC (f := 6) rfl ?_); refine gY (some 43) Try.func6 #[.agg #[.int .u64 a0_0, .int .u64 a0_1], .agg #[.int .u64 0, .int .u64 a1]] ?_; (with_reducible refine (part_Wide.calls k a0_0 a0_1 0 a1 t367 t368 t369 t370 t371 _ A6.out).mono ?_); rintro e w40 ⟨rfl, hb⟩; refine ⟨_, rfl, ?_⟩; have n0_ := aM (bB3 BK357.out hb); have n1_ := aM (bB3 BK363.out hb); have n2_ := aM (bS3 HB.out hb); clear BK357; clear BK363; clear HB; have BK357 := n0_; have BK363 := n1_; have HB := n2_; clear n0_ n1_ n2_; (try clear hb); (try simp only [errW_none, errW_some])) | ((with_reducible refine gD (N := 12) rfl ?_); refine bE3 12 #[.int .u64 0, .int .u64 0] 24 ?hr ?_; (case hr => first | (go_simp; done) | (go_simp; rfl)); intro gb372 hg w41 hbox hb; have n0_ := aM (bB3 BK357.out hb); have n1_ := aM (bB3 BK363.out hb); have n2_ := aM (bS3 HB.out hb); have n3_ := aM (hbox); have n4_ := aM ((bZ3 hg HB.out)); have n5_ := aM ((bZ3 hg HB.out)); have n6_ := aM ((bL3 hg BK357.out)); have n7_ := aM ((bG3 hg BK357.out)); have n8_ := aM ((bL3 hg BK363.out)); have n9_ := aM ((bG3 hg BK363.out)); clear BK357; clear BK363; clear HB; have BK357 := n0_; have BK363 := n1_; have HB := n2_; have BK372 := n3_; have GW372 := n4_; have GE372 := n5_; have NB357_372 := n6_; have NB372_357 := n7_; have NB363_372 := n8_; have NB372_363 := n9_; clear n0_ n1_ n2_ n3_ n4_ n5_ n6_ n7_ n8_ n9_; clear hb hbox hg) | ((with_reducible refine gD (N := 13) rfl ?_); refine bE3 13 #[.int .u64 0, .int .u64 0] 24 ?hr ?_; (case hr => first | (go_simp; done) | (go_simp; rfl)); intro gb373 hg w42 hbox hb; have n0_ := aM (bB3 BK357.out hb); have n1_ := aM (bB3 BK363.out hb); have n2_ := aM (bB3 BK372.out hb); have n3_ := aM (bS3 HB.out hb); have n4_ := aM (hbox); have n5_ := aM ((bZ3 hg HB.out)); have n6_ := aM ((bZ3 hg HB.out)); have n7_ := aM ((bL3 hg BK357.out)); have n8_ := aM ((bG3 hg BK357.out)); have n9_ := aM ((bL3 hg BK363.out)); have n10_ := aM ((bG3 hg BK363.out)); have n11_ := aM ((bL3 hg BK372.out)); have n12_ := aM ((bG3 hg BK372.out)); clear BK357; clear BK363; clear BK372; clear HB; have BK357 := n0_; have BK363 := n1_; have BK372 := n2_; have HB := n3_; have BK373 := n4_; have GW373 := n5_; have GE373 := n6_; have NB357_373 := n7_; have NB373_357 := n8_; have NB363_373 := n9_; have NB373_363 := n10_; have NB372_373 := n11_; have NB373_372 := n12_; clear n0_ n1_ n2_ n3_ n4_ n5_ n6_ n7_ n8_ n9_ n10_ n11_ n12_; clear hb hbox hg; have hnb43 := NB372_357.out; have hnc43 := NB357_372.out; have hnb44 := NB372_363.out; have hnc44 := NB363_372.out; have hnb45 := NB372_373.out; have hnc45 := NB373_372.out; have hcz46_0 := blk_cellL BK372.out 0 _ rfl; have hcz46_1 := blk_cellL BK372.out 1 _ rfl; have hfz46_0 := bF BK372.out 0; have hfz46_1 := bF BK372.out 1; have hnb47 := NB373_357.out; have hnc47 := NB357_373.out; have hnb48 := NB373_363.out; have hnc48 := NB363_373.out; have hcz49_0 := blk_cellL BK373.out 0 _ rfl; have hcz49_1 := blk_cellL BK373.out 1 _ rfl; have hfz49_0 := bF BK373.out 0; have hfz49_1 := bF BK373.out 1))
            go_ret
            exact ⟨by first | rfl | (simp [errW_none, errW_some] <;> rfl) | (simp [*, errW_none, errW_some] <;> rfl), by repeat (first | (with_reducible first | exact HB.out | apply pA | apply pN | apply p1 | refine pS ?_ GE357.out | refine pS ?_ GE363.out | refine pS ?_ GE372.out | refine pS ?_ GE373.out) | exact HB.out)⟩
          · have H1 : (if q375 = 4 then (if t371.isNone = true then (some false) else (some ((t371.getD 0) == 4))) else (some false)) = some r := by rw [if_neg (show ¬ (some q375).isNone = true by simp)] at H; exact H
            clear H
            have H := H1
            clear H1
            try simp only [errW_none, errW_some]
            by_cases c50 : q375 = 4
            · rw [if_pos c50] at H
              have c50b0 : (q375 == 4) = true := beq_iff_eq.mpr c50
              have c50b1 : (q375 != 4) = false := bne_eq_false_iff_eq.mpr c50
              clear c50
              rcases t371 with _ | q376
              · have H1 : (some false) = some r := by rw [if_pos (show (none : Option Int).isNone = true by rfl)] at H; exact H
                clear H
                have H := H1
                clear H1
                try simp only [errW_none, errW_some]
                obtain rfl := Option.some.inj H
                go_enter Try.func4, Try.ntmps4
                go_wp2_with (first | ((with_reducible refine gD (N := 2) rfl ?_); refine bE3 2 #[.int .u64 a0_0, .int .u64 a0_1] 24 ?hr ?_; (case hr => first | (go_simp; done) | (go_simp; rfl)); intro gb357 hg w51 hbox hb; have n0_ := aM (bS3 HB.out hb); have n1_ := aM (hbox); have n2_ := aM ((bZ3 hg HB.out)); have n3_ := aM ((bZ3 hg HB.out)); clear HB; have HB := n0_; have BK357 := n1_; have GW357 := n2_; have GE357 := n3_; clear n0_ n1_ n2_ n3_; clear hb hbox hg) | ((with_reducible refine gC (f := 5) rfl ?_); refine gY (some 24) Try.func5 #[] ?_; (with_reducible refine (vernierlaw03_up.calls k  true _ A3.out).mono ?_); rintro e w52 ⟨rfl, hb⟩; refine ⟨_, rfl, ?_⟩; have n0_ := aM (bB3 BK357.out hb); have n1_ := aM (bS3 HB.out hb); clear BK357; clear HB; have BK357 := n0_; have HB := n1_; clear n0_ n1_; (try clear hb); have hcz53_0 := blk_cellL BK357.out 0 _ rfl; have hcz53_1 := blk_cellL BK357.out 1 _ rfl; have hfz53_0 := bF BK357.out 0; have hfz53_1 := bF BK357.out 1) | ((with_reducible refine gC (f := 9) rfl ?_); refine gY (some 28) Try.func9 #[.agg #[.int .u64 a0_0, .int .u64 a0_1], .int .u64 a1] ?_; (with_reducible refine (part_Long.calls k a0_0 a0_1 a1 t359 t360 t361 (some q374) _ A4.out).mono ?_); rintro e w54 ⟨rfl, hb⟩; refine ⟨_, rfl, ?_⟩; have n0_ := aM (bB3 BK357.out hb); have n1_ := aM (bS3 HB.out hb); clear BK357; clear HB; have BK357 := n0_; have HB := n1_; clear n0_ n1_; (try clear hb); (try simp only [errW_none, errW_some])) | ((with_reducible refine gD (N := 6) rfl ?_); refine bE3 6 #[.int .u64 0, .int .u64 0] 24 ?hr ?_; (case hr => first | (go_simp; done) | (go_simp; rfl)); intro gb363 hg w55 hbox hb; have n0_ := aM (bB3 BK357.out hb); have n1_ := aM (bS3 HB.out hb); have n2_ := aM (hbox); have n3_ := aM ((bZ3 hg HB.out)); have n4_ := aM ((bZ3 hg HB.out)); have n5_ := aM ((bL3 hg BK357.out)); have n6_ := aM ((bG3 hg BK357.out)); clear BK357; clear HB; have BK357 := n0_; have HB := n1_; have BK363 := n2_; have GW363 := n3_; have GE363 := n4_; have NB357_363 := n5_; have NB363_357 := n6_; clear n0_ n1_ n2_ n3_ n4_ n5_ n6_; clear hb hbox hg; have hnb56 := NB363_357.out; have hnc56 := NB357_363.out; have hcz57_0 := blk_cellL BK363.out 0 _ rfl; have hcz57_1 := blk_cellL BK363.out 1 _ rfl; have hfz57_0 := bF BK363.out 0; have hfz57_1 := bF BK363.out 1; have hcz58_0 := blk_cellL BK357.out 0 _ rfl; have hcz58_1 := blk_cellL BK357.out 1 _ rfl; have hfz58_0 := bF BK357.out 0; have hfz58_1 := bF BK357.out 1) | ((with_reducible refine gC (f := 10) rfl ?_); refine gY (some 35) Try.func10 #[.agg #[.int .u64 a0_0, .int .u64 a0_1], .int .u64 a1] ?_; (with_reducible refine (part_Div.calls k a0_0 a0_1 a1 t364 t365 (some q375) _ A5.out).mono ?_); rintro e w59 ⟨rfl, hb⟩; refine ⟨_, rfl, ?_⟩; have n0_ := aM (bB (g := gb357) (o := .cells #[.int .u64 a0_0, .int .u64 a0_1] 24 (0, 0)) (by (with_reducible repeat (first | refine bN ?_ _ | refine bD ?_ | refine bA ?_ _)); refine blk_far ?_ NB357_363.out _; (with_reducible repeat (first | refine bN ?_ _ | refine bD ?_ | refine bA ?_ _)); refine blk_far ?_ NB357_363.out _; (with_reducible repeat (first | refine bN ?_ _ | refine bD ?_ | refine bA ?_ _)); exact BK357.out) hb); have n1_ := aM (bB (g := gb363) (o := .cells #[.int .u64 t359, .int .u64 t360] 24 (0, 0)) (by (with_reducible repeat (first | refine bN ?_ _ | refine bD ?_ | refine bA ?_ _)); refine blk_put (cs := #[.int .u64 t359, .int .u64 0]) ?_ 1 _ rfl; (with_reducible repeat (first | refine bN ?_ _ | refine bD ?_ | refine bA ?_ _)); refine blk_put (cs := #[.int .u64 0, .int .u64 0]) ?_ 0 _ rfl; (with_reducible repeat (first | refine bN ?_ _ | refine bD ?_ | refine bA ?_ _)); exact BK363.out) hb); have n2_ := aM (bS3 HB.out hb); clear BK357; clear BK363; clear HB; have BK357 := n0_; have BK363 := n1_; have HB := n2_; clear n0_ n1_ n2_; (try clear hb); (try simp only [errW_none, errW_some]); have hcz60_0 := blk_cellL BK357.out 0 _ rfl; have hcz60_1 := blk_cellL BK357.out 1 _ rfl; have hfz60_0 := bF BK357.out 0; have hfz60_1 := bF BK357.out 1) | ((with_reducible refine gC (f := 6) rfl ?_); refine gY (some 43) Try.func6 #[.agg #[.int .u64 a0_0, .int .u64 a0_1], .agg #[.int .u64 0, .int .u64 a1]] ?_; (with_reducible refine (part_Wide.calls k a0_0 a0_1 0 a1 t367 t368 t369 t370 none _ A6.out).mono ?_); rintro e w61 ⟨rfl, hb⟩; refine ⟨_, rfl, ?_⟩; have n0_ := aM (bB3 BK357.out hb); have n1_ := aM (bB3 BK363.out hb); have n2_ := aM (bS3 HB.out hb); clear BK357; clear BK363; clear HB; have BK357 := n0_; have BK363 := n1_; have HB := n2_; clear n0_ n1_ n2_; (try clear hb); (try simp only [errW_none, errW_some])) | ((with_reducible refine gD (N := 12) rfl ?_); refine bE3 12 #[.int .u64 0, .int .u64 0] 24 ?hr ?_; (case hr => first | (go_simp; done) | (go_simp; rfl)); intro gb372 hg w62 hbox hb; have n0_ := aM (bB3 BK357.out hb); have n1_ := aM (bB3 BK363.out hb); have n2_ := aM (bS3 HB.out hb); have n3_ := aM (hbox); have n4_ := aM ((bZ3 hg HB.out)); have n5_ := aM ((bZ3 hg HB.out)); have n6_ := aM ((bL3 hg BK357.out)); have n7_ := aM ((bG3 hg BK357.out)); have n8_ := aM ((bL3 hg BK363.out)); have n9_ := aM ((bG3 hg BK363.out)); clear BK357; clear BK363; clear HB; have BK357 := n0_; have BK363 := n1_; have HB := n2_; have BK372 := n3_; have GW372 := n4_; have GE372 := n5_; have NB357_372 := n6_; have NB372_357 := n7_; have NB363_372 := n8_; have NB372_363 := n9_; clear n0_ n1_ n2_ n3_ n4_ n5_ n6_ n7_ n8_ n9_; clear hb hbox hg) | ((with_reducible refine gD (N := 13) rfl ?_); refine bE3 13 #[.int .u64 0, .int .u64 0] 24 ?hr ?_; (case hr => first | (go_simp; done) | (go_simp; rfl)); intro gb373 hg w63 hbox hb; have n0_ := aM (bB3 BK357.out hb); have n1_ := aM (bB3 BK363.out hb); have n2_ := aM (bB3 BK372.out hb); have n3_ := aM (bS3 HB.out hb); have n4_ := aM (hbox); have n5_ := aM ((bZ3 hg HB.out)); have n6_ := aM ((bZ3 hg HB.out)); have n7_ := aM ((bL3 hg BK357.out)); have n8_ := aM ((bG3 hg BK357.out)); have n9_ := aM ((bL3 hg BK363.out)); have n10_ := aM ((bG3 hg BK363.out)); have n11_ := aM ((bL3 hg BK372.out)); have n12_ := aM ((bG3 hg BK372.out)); clear BK357; clear BK363; clear BK372; clear HB; have BK357 := n0_; have BK363 := n1_; have BK372 := n2_; have HB := n3_; have BK373 := n4_; have GW373 := n5_; have GE373 := n6_; have NB357_373 := n7_; have NB373_357 := n8_; have NB363_373 := n9_; have NB373_363 := n10_; have NB372_373 := n11_; have NB373_372 := n12_; clear n0_ n1_ n2_ n3_ n4_ n5_ n6_ n7_ n8_ n9_ n10_ n11_ n12_; clear hb hbox hg; have hnb64 := NB372_357.out; have hnc64 := NB357_372.out; have hnb65 := NB372_363.out; have hnc65 := NB363_372.out; have hnb66 := NB372_373.out; have hnc66 := NB373_372.out; have hcz67_0 := blk_cellL BK372.out 0 _ rfl; have hcz67_1 := blk_cellL BK372.out 1 _ rfl; have hfz67_0 := bF BK372.out 0; have hfz67_1 := bF BK372.out 1; have hnb68 := NB373_357.out; have hnc68 := NB357_373.out; have hnb69 := NB373_363.out; have hnc69 := NB363_373.out; have hcz70_0 := blk_cellL BK373.out 0 _ rfl; have hcz70_1 := blk_cellL BK373.out 1 _ rfl; have hfz70_0 := bF BK373.out 0; have hfz70_1 := bF BK373.out 1))
                go_ret
                exact ⟨by first | rfl | (simp [errW_none, errW_some] <;> rfl) | (simp [*, errW_none, errW_some] <;> rfl), by repeat (first | (with_reducible first | exact HB.out | apply pA | apply pN | apply p1 | refine pS ?_ GE357.out | refine pS ?_ GE363.out | refine pS ?_ GE372.out | refine pS ?_ GE373.out) | exact HB.out)⟩
              · have H1 : (some (q376 == 4)) = some r := by rw [if_neg (show ¬ (some q376).isNone = true by simp)] at H; exact H
                clear H
                have H := H1
                clear H1
                try simp only [errW_none, errW_some]
                obtain rfl := Option.some.inj H
                go_enter Try.func4, Try.ntmps4
                go_wp2_with (first | ((with_reducible refine gD (N := 2) rfl ?_); refine bE3 2 #[.int .u64 a0_0, .int .u64 a0_1] 24 ?hr ?_; (case hr => first | (go_simp; done) | (go_simp; rfl)); intro gb357 hg w71 hbox hb; have n0_ := aM (bS3 HB.out hb); have n1_ := aM (hbox); have n2_ := aM ((bZ3 hg HB.out)); have n3_ := aM ((bZ3 hg HB.out)); clear HB; have HB := n0_; have BK357 := n1_; have GW357 := n2_; have GE357 := n3_; clear n0_ n1_ n2_ n3_; clear hb hbox hg) | ((with_reducible refine gC (f := 5) rfl ?_); refine gY (some 24) Try.func5 #[] ?_; (with_reducible refine (vernierlaw03_up.calls k  true _ A3.out).mono ?_); rintro e w72 ⟨rfl, hb⟩; refine ⟨_, rfl, ?_⟩; have n0_ := aM (bB3 BK357.out hb); have n1_ := aM (bS3 HB.out hb); clear BK357; clear HB; have BK357 := n0_; have HB := n1_; clear n0_ n1_; (try clear hb); have hcz73_0 := blk_cellL BK357.out 0 _ rfl; have hcz73_1 := blk_cellL BK357.out 1 _ rfl; have hfz73_0 := bF BK357.out 0; have hfz73_1 := bF BK357.out 1) | ((with_reducible refine gC (f := 9) rfl ?_); refine gY (some 28) Try.func9 #[.agg #[.int .u64 a0_0, .int .u64 a0_1], .int .u64 a1] ?_; (with_reducible refine (part_Long.calls k a0_0 a0_1 a1 t359 t360 t361 (some q374) _ A4.out).mono ?_); rintro e w74 ⟨rfl, hb⟩; refine ⟨_, rfl, ?_⟩; have n0_ := aM (bB3 BK357.out hb); have n1_ := aM (bS3 HB.out hb); clear BK357; clear HB; have BK357 := n0_; have HB := n1_; clear n0_ n1_; (try clear hb); (try simp only [errW_none, errW_some])) | ((with_reducible refine gD (N := 6) rfl ?_); refine bE3 6 #[.int .u64 0, .int .u64 0] 24 ?hr ?_; (case hr => first | (go_simp; done) | (go_simp; rfl)); intro gb363 hg w75 hbox hb; have n0_ := aM (bB3 BK357.out hb); have n1_ := aM (bS3 HB.out hb); have n2_ := aM (hbox); have n3_ := aM ((bZ3 hg HB.out)); have n4_ := aM ((bZ3 hg HB.out)); have n5_ := aM ((bL3 hg BK357.out)); have n6_ := aM ((bG3 hg BK357.out)); clear BK357; clear HB; have BK357 := n0_; have HB := n1_; have BK363 := n2_; have GW363 := n3_; have GE363 := n4_; have NB357_363 := n5_; have NB363_357 := n6_; clear n0_ n1_ n2_ n3_ n4_ n5_ n6_; clear hb hbox hg; have hnb76 := NB363_357.out; have hnc76 := NB357_363.out; have hcz77_0 := blk_cellL BK363.out 0 _ rfl; have hcz77_1 := blk_cellL BK363.out 1 _ rfl; have hfz77_0 := bF BK363.out 0; have hfz77_1 := bF BK363.out 1; have hcz78_0 := blk_cellL BK357.out 0 _ rfl; have hcz78_1 := blk_cellL BK357.out 1 _ rfl; have hfz78_0 := bF BK357.out 0; have hfz78_1 := bF BK357.out 1) | ((with_reducible refine gC (f := 10) rfl ?_); refine gY (some 35) Try.func10 #[.agg #[.int .u64 a0_0, .int .u64 a0_1], .int .u64 a1] ?_; (with_reducible refine (part_Div.calls k a0_0 a0_1 a1 t364 t365 (some q375) _ A5.out).mono ?_); rintro e w79 ⟨rfl, hb⟩; refine ⟨_, rfl, ?_⟩; have n0_ := aM (bB (g := gb357) (o := .cells #[.int .u64 a0_0, .int .u64 a0_1] 24 (0, 0)) (by (with_reducible repeat (first | refine bN ?_ _ | refine bD ?_ | refine bA ?_ _)); refine blk_far ?_ NB357_363.out _; (with_reducible repeat (first | refine bN ?_ _ | refine bD ?_ | refine bA ?_ _)); refine blk_far ?_ NB357_363.out _; (with_reducible repeat (first | refine bN ?_ _ | refine bD ?_ | refine bA ?_ _)); exact BK357.out) hb); have n1_ := aM (bB (g := gb363) (o := .cells #[.int .u64 t359, .int .u64 t360] 24 (0, 0)) (by (with_reducible repeat (first | refine bN ?_ _ | refine bD ?_ | refine bA ?_ _)); refine blk_put (cs := #[.int .u64 t359, .int .u64 0]) ?_ 1 _ rfl; (with_reducible repeat (first | refine bN ?_ _ | refine bD ?_ | refine bA ?_ _)); refine blk_put (cs := #[.int .u64 0, .int .u64 0]) ?_ 0 _ rfl; (with_reducible repeat (first | refine bN ?_ _ | refine bD ?_ | refine bA ?_ _)); exact BK363.out) hb); have n2_ := aM (bS3 HB.out hb); clear BK357; clear BK363; clear HB; have BK357 := n0_; have BK363 := n1_; have HB := n2_; clear n0_ n1_ n2_; (try clear hb); (try simp only [errW_none, errW_some]); have hcz80_0 := blk_cellL BK357.out 0 _ rfl; have hcz80_1 := blk_cellL BK357.out 1 _ rfl; have hfz80_0 := bF BK357.out 0; have hfz80_1 := bF BK357.out 1) | ((with_reducible refine gC (f := 6) rfl ?_); refine gY (some 43) Try.func6 #[.agg #[.int .u64 a0_0, .int .u64 a0_1], .agg #[.int .u64 0, .int .u64 a1]] ?_; (with_reducible refine (part_Wide.calls k a0_0 a0_1 0 a1 t367 t368 t369 t370 (some q376) _ A6.out).mono ?_); rintro e w81 ⟨rfl, hb⟩; refine ⟨_, rfl, ?_⟩; have n0_ := aM (bB3 BK357.out hb); have n1_ := aM (bB3 BK363.out hb); have n2_ := aM (bS3 HB.out hb); clear BK357; clear BK363; clear HB; have BK357 := n0_; have BK363 := n1_; have HB := n2_; clear n0_ n1_ n2_; (try clear hb); (try simp only [errW_none, errW_some])) | ((with_reducible refine gD (N := 12) rfl ?_); refine bE3 12 #[.int .u64 0, .int .u64 0] 24 ?hr ?_; (case hr => first | (go_simp; done) | (go_simp; rfl)); intro gb372 hg w82 hbox hb; have n0_ := aM (bB3 BK357.out hb); have n1_ := aM (bB3 BK363.out hb); have n2_ := aM (bS3 HB.out hb); have n3_ := aM (hbox); have n4_ := aM ((bZ3 hg HB.out)); have n5_ := aM ((bZ3 hg HB.out)); have n6_ := aM ((bL3 hg BK357.out)); have n7_ := aM ((bG3 hg BK357.out)); have n8_ := aM ((bL3 hg BK363.out)); have n9_ := aM ((bG3 hg BK363.out)); clear BK357; clear BK363; clear HB; have BK357 := n0_; have BK363 := n1_; have HB := n2_; have BK372 := n3_; have GW372 := n4_; have GE372 := n5_; have NB357_372 := n6_; have NB372_357 := n7_; have NB363_372 := n8_; have NB372_363 := n9_; clear n0_ n1_ n2_ n3_ n4_ n5_ n6_ n7_ n8_ n9_; clear hb hbox hg) | ((with_reducible refine gD (N := 13) rfl ?_); refine bE3 13 #[.int .u64 0, .int .u64 0] 24 ?hr ?_; (case hr => first | (go_simp; done) | (go_simp; rfl)); intro gb373 hg w83 hbox hb; have n0_ := aM (bB3 BK357.out hb); have n1_ := aM (bB3 BK363.out hb); have n2_ := aM (bB3 BK372.out hb); have n3_ := aM (bS3 HB.out hb); have n4_ := aM (hbox); have n5_ := aM ((bZ3 hg HB.out)); have n6_ := aM ((bZ3 hg HB.out)); have n7_ := aM ((bL3 hg BK357.out)); have n8_ := aM ((bG3 hg BK357.out)); have n9_ := aM ((bL3 hg BK363.out)); have n10_ := aM ((bG3 hg BK363.out)); have n11_ := aM ((bL3 hg BK372.out)); have n12_ := aM ((bG3 hg BK372.out)); clear BK357; clear BK363; clear BK372; clear HB; have BK357 := n0_; have BK363 := n1_; have BK372 := n2_; have HB := n3_; have BK373 := n4_; have GW373 := n5_; have GE373 := n6_; have NB357_373 := n7_; have NB373_357 := n8_; have NB363_373 := n9_; have NB373_363 := n10_; have NB372_373 := n11_; have NB373_372 := n12_; clear n0_ n1_ n2_ n3_ n4_ n5_ n6_ n7_ n8_ n9_ n10_ n11_ n12_; clear hb hbox hg; have hnb84 := NB372_357.out; have hnc84 := NB357_372.out; have hnb85 := NB372_363.out; have hnc85 := NB363_372.out; have hnb86 := NB372_373.out; have hnc86 := NB373_372.out; have hcz87_0 := blk_cellL BK372.out 0 _ rfl; have hcz87_1 := blk_cellL BK372.out 1 _ rfl; have hfz87_0 := bF BK372.out 0; have hfz87_1 := bF BK372.out 1; have hnb88 := NB373_357.out; have hnc88 := NB357_373.out; have hnb89 := NB373_363.out; have hnc89 := NB363_373.out; have hcz90_0 := blk_cellL BK373.out 0 _ rfl; have hcz90_1 := blk_cellL BK373.out 1 _ rfl; have hfz90_0 := bF BK373.out 0; have hfz90_1 := bF BK373.out 1))
                go_ret
                exact ⟨by first | rfl | (simp [errW_none, errW_some] <;> rfl) | (simp [*, errW_none, errW_some] <;> rfl), by repeat (first | (with_reducible first | exact HB.out | apply pA | apply pN | apply p1 | refine pS ?_ GE357.out | refine pS ?_ GE363.out | refine pS ?_ GE372.out | refine pS ?_ GE373.out) | exact HB.out)⟩
            · rw [if_neg c50] at H
              have c50b0 : (q375 == 4) = false := beq_eq_false_iff_ne.mpr c50
              have c50b1 : (q375 != 4) = true := bne_iff_ne.mpr c50
              obtain rfl := Option.some.inj H
              go_enter Try.func4, Try.ntmps4
              go_wp2_with (first | ((with_reducible refine gD (N := 2) rfl ?_); refine bE3 2 #[.int .u64 a0_0, .int .u64 a0_1] 24 ?hr ?_; (case hr => first | (go_simp; done) | (go_simp; rfl)); intro gb357 hg w91 hbox hb; have n0_ := aM (bS3 HB.out hb); have n1_ := aM (hbox); have n2_ := aM ((bZ3 hg HB.out)); have n3_ := aM ((bZ3 hg HB.out)); clear HB; have HB := n0_; have BK357 := n1_; have GW357 := n2_; have GE357 := n3_; clear n0_ n1_ n2_ n3_; clear hb hbox hg) | ((with_reducible refine gC (f := 5) rfl ?_); refine gY (some 24) Try.func5 #[] ?_; (with_reducible refine (vernierlaw03_up.calls k  true _ A3.out).mono ?_); rintro e w92 ⟨rfl, hb⟩; refine ⟨_, rfl, ?_⟩; have n0_ := aM (bB3 BK357.out hb); have n1_ := aM (bS3 HB.out hb); clear BK357; clear HB; have BK357 := n0_; have HB := n1_; clear n0_ n1_; (try clear hb); have hcz93_0 := blk_cellL BK357.out 0 _ rfl; have hcz93_1 := blk_cellL BK357.out 1 _ rfl; have hfz93_0 := bF BK357.out 0; have hfz93_1 := bF BK357.out 1) | ((with_reducible refine gC (f := 9) rfl ?_); refine gY (some 28) Try.func9 #[.agg #[.int .u64 a0_0, .int .u64 a0_1], .int .u64 a1] ?_; (with_reducible refine (part_Long.calls k a0_0 a0_1 a1 t359 t360 t361 (some q374) _ A4.out).mono ?_); rintro e w94 ⟨rfl, hb⟩; refine ⟨_, rfl, ?_⟩; have n0_ := aM (bB3 BK357.out hb); have n1_ := aM (bS3 HB.out hb); clear BK357; clear HB; have BK357 := n0_; have HB := n1_; clear n0_ n1_; (try clear hb); (try simp only [errW_none, errW_some])) | ((with_reducible refine gD (N := 6) rfl ?_); refine bE3 6 #[.int .u64 0, .int .u64 0] 24 ?hr ?_; (case hr => first | (go_simp; done) | (go_simp; rfl)); intro gb363 hg w95 hbox hb; have n0_ := aM (bB3 BK357.out hb); have n1_ := aM (bS3 HB.out hb); have n2_ := aM (hbox); have n3_ := aM ((bZ3 hg HB.out)); have n4_ := aM ((bZ3 hg HB.out)); have n5_ := aM ((bL3 hg BK357.out)); have n6_ := aM ((bG3 hg BK357.out)); clear BK357; clear HB; have BK357 := n0_; have HB := n1_; have BK363 := n2_; have GW363 := n3_; have GE363 := n4_; have NB357_363 := n5_; have NB363_357 := n6_; clear n0_ n1_ n2_ n3_ n4_ n5_ n6_; clear hb hbox hg; have hnb96 := NB363_357.out; have hnc96 := NB357_363.out; have hcz97_0 := blk_cellL BK363.out 0 _ rfl; have hcz97_1 := blk_cellL BK363.out 1 _ rfl; have hfz97_0 := bF BK363.out 0; have hfz97_1 := bF BK363.out 1; have hcz98_0 := blk_cellL BK357.out 0 _ rfl; have hcz98_1 := blk_cellL BK357.out 1 _ rfl; have hfz98_0 := bF BK357.out 0; have hfz98_1 := bF BK357.out 1) | ((with_reducible refine gC (f := 10) rfl ?_); refine gY (some 35) Try.func10 #[.agg #[.int .u64 a0_0, .int .u64 a0_1], .int .u64 a1] ?_; (with_reducible refine (part_Div.calls k a0_0 a0_1 a1 t364 t365 (some q375) _ A5.out).mono ?_); rintro e w99 ⟨rfl, hb⟩; refine ⟨_, rfl, ?_⟩; have n0_ := aM (bB (g := gb357) (o := .cells #[.int .u64 a0_0, .int .u64 a0_1] 24 (0, 0)) (by (with_reducible repeat (first | refine bN ?_ _ | refine bD ?_ | refine bA ?_ _)); refine blk_far ?_ NB357_363.out _; (with_reducible repeat (first | refine bN ?_ _ | refine bD ?_ | refine bA ?_ _)); refine blk_far ?_ NB357_363.out _; (with_reducible repeat (first | refine bN ?_ _ | refine bD ?_ | refine bA ?_ _)); exact BK357.out) hb); have n1_ := aM (bB (g := gb363) (o := .cells #[.int .u64 t359, .int .u64 t360] 24 (0, 0)) (by (with_reducible repeat (first | refine bN ?_ _ | refine bD ?_ | refine bA ?_ _)); refine blk_put (cs := #[.int .u64 t359, .int .u64 0]) ?_ 1 _ rfl; (with_reducible repeat (first | refine bN ?_ _ | refine bD ?_ | refine bA ?_ _)); refine blk_put (cs := #[.int .u64 0, .int .u64 0]) ?_ 0 _ rfl; (with_reducible repeat (first | refine bN ?_ _ | refine bD ?_ | refine bA ?_ _)); exact BK363.out) hb); have n2_ := aM (bS3 HB.out hb); clear BK357; clear BK363; clear HB; have BK357 := n0_; have BK363 := n1_; have HB := n2_; clear n0_ n1_ n2_; (try clear hb); (try simp only [errW_none, errW_some]); have hcz100_0 := blk_cellL BK357.out 0 _ rfl; have hcz100_1 := blk_cellL BK357.out 1 _ rfl; have hfz100_0 := bF BK357.out 0; have hfz100_1 := bF BK357.out 1) | ((with_reducible refine gC (f := 6) rfl ?_); refine gY (some 43) Try.func6 #[.agg #[.int .u64 a0_0, .int .u64 a0_1], .agg #[.int .u64 0, .int .u64 a1]] ?_; (with_reducible refine (part_Wide.calls k a0_0 a0_1 0 a1 t367 t368 t369 t370 t371 _ A6.out).mono ?_); rintro e w101 ⟨rfl, hb⟩; refine ⟨_, rfl, ?_⟩; have n0_ := aM (bB3 BK357.out hb); have n1_ := aM (bB3 BK363.out hb); have n2_ := aM (bS3 HB.out hb); clear BK357; clear BK363; clear HB; have BK357 := n0_; have BK363 := n1_; have HB := n2_; clear n0_ n1_ n2_; (try clear hb); (try simp only [errW_none, errW_some])) | ((with_reducible refine gD (N := 12) rfl ?_); refine bE3 12 #[.int .u64 0, .int .u64 0] 24 ?hr ?_; (case hr => first | (go_simp; done) | (go_simp; rfl)); intro gb372 hg w102 hbox hb; have n0_ := aM (bB3 BK357.out hb); have n1_ := aM (bB3 BK363.out hb); have n2_ := aM (bS3 HB.out hb); have n3_ := aM (hbox); have n4_ := aM ((bZ3 hg HB.out)); have n5_ := aM ((bZ3 hg HB.out)); have n6_ := aM ((bL3 hg BK357.out)); have n7_ := aM ((bG3 hg BK357.out)); have n8_ := aM ((bL3 hg BK363.out)); have n9_ := aM ((bG3 hg BK363.out)); clear BK357; clear BK363; clear HB; have BK357 := n0_; have BK363 := n1_; have HB := n2_; have BK372 := n3_; have GW372 := n4_; have GE372 := n5_; have NB357_372 := n6_; have NB372_357 := n7_; have NB363_372 := n8_; have NB372_363 := n9_; clear n0_ n1_ n2_ n3_ n4_ n5_ n6_ n7_ n8_ n9_; clear hb hbox hg) | ((with_reducible refine gD (N := 13) rfl ?_); refine bE3 13 #[.int .u64 0, .int .u64 0] 24 ?hr ?_; (case hr => first | (go_simp; done) | (go_simp; rfl)); intro gb373 hg w103 hbox hb; have n0_ := aM (bB3 BK357.out hb); have n1_ := aM (bB3 BK363.out hb); have n2_ := aM (bB3 BK372.out hb); have n3_ := aM (bS3 HB.out hb); have n4_ := aM (hbox); have n5_ := aM ((bZ3 hg HB.out)); have n6_ := aM ((bZ3 hg HB.out)); have n7_ := aM ((bL3 hg BK357.out)); have n8_ := aM ((bG3 hg BK357.out)); have n9_ := aM ((bL3 hg BK363.out)); have n10_ := aM ((bG3 hg BK363.out)); have n11_ := aM ((bL3 hg BK372.out)); have n12_ := aM ((bG3 hg BK372.out)); clear BK357; clear BK363; clear BK372; clear HB; have BK357 := n0_; have BK363 := n1_; have BK372 := n2_; have HB := n3_; have BK373 := n4_; have GW373 := n5_; have GE373 := n6_; have NB357_373 := n7_; have NB373_357 := n8_; have NB363_373 := n9_; have NB373_363 := n10_; have NB372_373 := n11_; have NB373_372 := n12_; clear n0_ n1_ n2_ n3_ n4_ n5_ n6_ n7_ n8_ n9_ n10_ n11_ n12_; clear hb hbox hg; have hnb104 := NB372_357.out; have hnc104 := NB357_372.out; have hnb105 := NB372_363.out; have hnc105 := NB363_372.out; have hnb106 := NB372_373.out; have hnc106 := NB373_372.out; have hcz107_0 := blk_cellL BK372.out 0 _ rfl; have hcz107_1 := blk_cellL BK372.out 1 _ rfl; have hfz107_0 := bF BK372.out 0; have hfz107_1 := bF BK372.out 1; have hnb108 := NB373_357.out; have hnc108 := NB357_373.out; have hnb109 := NB373_363.out; have hnc109 := NB363_373.out; have hcz110_0 := blk_cellL BK373.out 0 _ rfl; have hcz110_1 := blk_cellL BK373.out 1 _ rfl; have hfz110_0 := bF BK373.out 0; have hfz110_1 := bF BK373.out 1))
              go_ret
              exact ⟨by first | rfl | (simp [errW_none, errW_some] <;> rfl) | (simp [*, errW_none, errW_some] <;> rfl), by repeat (first | (with_reducible first | exact HB.out | apply pA | apply pN | apply p1 | refine pS ?_ GE357.out | refine pS ?_ GE363.out | refine pS ?_ GE372.out | refine pS ?_ GE373.out) | exact HB.out)⟩
        · rw [if_neg c29] at H
          have c29b0 : (q374 == 4) = false := beq_eq_false_iff_ne.mpr c29
          have c29b1 : (q374 != 4) = true := bne_iff_ne.mpr c29
          obtain rfl := Option.some.inj H
          go_enter Try.func4, Try.ntmps4
          go_wp2_with (first | ((with_reducible refine gD (N := 2) rfl ?_); refine bE3 2 #[.int .u64 a0_0, .int .u64 a0_1] 24 ?hr ?_; (case hr => first | (go_simp; done) | (go_simp; rfl)); intro gb357 hg w111 hbox hb; have n0_ := aM (bS3 HB.out hb); have n1_ := aM (hbox); have n2_ := aM ((bZ3 hg HB.out)); have n3_ := aM ((bZ3 hg HB.out)); clear HB; have HB := n0_; have BK357 := n1_; have GW357 := n2_; have GE357 := n3_; clear n0_ n1_ n2_ n3_; clear hb hbox hg) | ((with_reducible refine gC (f := 5) rfl ?_); refine gY (some 24) Try.func5 #[] ?_; (with_reducible refine (vernierlaw03_up.calls k  true _ A3.out).mono ?_); rintro e w112 ⟨rfl, hb⟩; refine ⟨_, rfl, ?_⟩; have n0_ := aM (bB3 BK357.out hb); have n1_ := aM (bS3 HB.out hb); clear BK357; clear HB; have BK357 := n0_; have HB := n1_; clear n0_ n1_; (try clear hb); have hcz113_0 := blk_cellL BK357.out 0 _ rfl; have hcz113_1 := blk_cellL BK357.out 1 _ rfl; have hfz113_0 := bF BK357.out 0; have hfz113_1 := bF BK357.out 1) | ((with_reducible refine gC (f := 9) rfl ?_); refine gY (some 28) Try.func9 #[.agg #[.int .u64 a0_0, .int .u64 a0_1], .int .u64 a1] ?_; (with_reducible refine (part_Long.calls k a0_0 a0_1 a1 t359 t360 t361 (some q374) _ A4.out).mono ?_); rintro e w114 ⟨rfl, hb⟩; refine ⟨_, rfl, ?_⟩; have n0_ := aM (bB3 BK357.out hb); have n1_ := aM (bS3 HB.out hb); clear BK357; clear HB; have BK357 := n0_; have HB := n1_; clear n0_ n1_; (try clear hb); (try simp only [errW_none, errW_some])) | ((with_reducible refine gD (N := 6) rfl ?_); refine bE3 6 #[.int .u64 0, .int .u64 0] 24 ?hr ?_; (case hr => first | (go_simp; done) | (go_simp; rfl)); intro gb363 hg w115 hbox hb; have n0_ := aM (bB3 BK357.out hb); have n1_ := aM (bS3 HB.out hb); have n2_ := aM (hbox); have n3_ := aM ((bZ3 hg HB.out)); have n4_ := aM ((bZ3 hg HB.out)); have n5_ := aM ((bL3 hg BK357.out)); have n6_ := aM ((bG3 hg BK357.out)); clear BK357; clear HB; have BK357 := n0_; have HB := n1_; have BK363 := n2_; have GW363 := n3_; have GE363 := n4_; have NB357_363 := n5_; have NB363_357 := n6_; clear n0_ n1_ n2_ n3_ n4_ n5_ n6_; clear hb hbox hg; have hnb116 := NB363_357.out; have hnc116 := NB357_363.out; have hcz117_0 := blk_cellL BK363.out 0 _ rfl; have hcz117_1 := blk_cellL BK363.out 1 _ rfl; have hfz117_0 := bF BK363.out 0; have hfz117_1 := bF BK363.out 1; have hcz118_0 := blk_cellL BK357.out 0 _ rfl; have hcz118_1 := blk_cellL BK357.out 1 _ rfl; have hfz118_0 := bF BK357.out 0; have hfz118_1 := bF BK357.out 1) | ((with_reducible refine gC (f := 10) rfl ?_); refine gY (some 35) Try.func10 #[.agg #[.int .u64 a0_0, .int .u64 a0_1], .int .u64 a1] ?_; (with_reducible refine (part_Div.calls k a0_0 a0_1 a1 t364 t365 t366 _ A5.out).mono ?_); rintro e w119 ⟨rfl, hb⟩; refine ⟨_, rfl, ?_⟩; have n0_ := aM (bB (g := gb357) (o := .cells #[.int .u64 a0_0, .int .u64 a0_1] 24 (0, 0)) (by (with_reducible repeat (first | refine bN ?_ _ | refine bD ?_ | refine bA ?_ _)); refine blk_far ?_ NB357_363.out _; (with_reducible repeat (first | refine bN ?_ _ | refine bD ?_ | refine bA ?_ _)); refine blk_far ?_ NB357_363.out _; (with_reducible repeat (first | refine bN ?_ _ | refine bD ?_ | refine bA ?_ _)); exact BK357.out) hb); have n1_ := aM (bB (g := gb363) (o := .cells #[.int .u64 t359, .int .u64 t360] 24 (0, 0)) (by (with_reducible repeat (first | refine bN ?_ _ | refine bD ?_ | refine bA ?_ _)); refine blk_put (cs := #[.int .u64 t359, .int .u64 0]) ?_ 1 _ rfl; (with_reducible repeat (first | refine bN ?_ _ | refine bD ?_ | refine bA ?_ _)); refine blk_put (cs := #[.int .u64 0, .int .u64 0]) ?_ 0 _ rfl; (with_reducible repeat (first | refine bN ?_ _ | refine bD ?_ | refine bA ?_ _)); exact BK363.out) hb); have n2_ := aM (bS3 HB.out hb); clear BK357; clear BK363; clear HB; have BK357 := n0_; have BK363 := n1_; have HB := n2_; clear n0_ n1_ n2_; (try clear hb); (try simp only [errW_none, errW_some]); have hcz120_0 := blk_cellL BK357.out 0 _ rfl; have hcz120_1 := blk_cellL BK357.out 1 _ rfl; have hfz120_0 := bF BK357.out 0; have hfz120_1 := bF BK357.out 1) | ((with_reducible refine gC (f := 6) rfl ?_); refine gY (some 43) Try.func6 #[.agg #[.int .u64 a0_0, .int .u64 a0_1], .agg #[.int .u64 0, .int .u64 a1]] ?_; (with_reducible refine (part_Wide.calls k a0_0 a0_1 0 a1 t367 t368 t369 t370 t371 _ A6.out).mono ?_); rintro e w121 ⟨rfl, hb⟩; refine ⟨_, rfl, ?_⟩; have n0_ := aM (bB3 BK357.out hb); have n1_ := aM (bB3 BK363.out hb); have n2_ := aM (bS3 HB.out hb); clear BK357; clear BK363; clear HB; have BK357 := n0_; have BK363 := n1_; have HB := n2_; clear n0_ n1_ n2_; (try clear hb); (try simp only [errW_none, errW_some])) | ((with_reducible refine gD (N := 12) rfl ?_); refine bE3 12 #[.int .u64 0, .int .u64 0] 24 ?hr ?_; (case hr => first | (go_simp; done) | (go_simp; rfl)); intro gb372 hg w122 hbox hb; have n0_ := aM (bB3 BK357.out hb); have n1_ := aM (bB3 BK363.out hb); have n2_ := aM (bS3 HB.out hb); have n3_ := aM (hbox); have n4_ := aM ((bZ3 hg HB.out)); have n5_ := aM ((bZ3 hg HB.out)); have n6_ := aM ((bL3 hg BK357.out)); have n7_ := aM ((bG3 hg BK357.out)); have n8_ := aM ((bL3 hg BK363.out)); have n9_ := aM ((bG3 hg BK363.out)); clear BK357; clear BK363; clear HB; have BK357 := n0_; have BK363 := n1_; have HB := n2_; have BK372 := n3_; have GW372 := n4_; have GE372 := n5_; have NB357_372 := n6_; have NB372_357 := n7_; have NB363_372 := n8_; have NB372_363 := n9_; clear n0_ n1_ n2_ n3_ n4_ n5_ n6_ n7_ n8_ n9_; clear hb hbox hg) | ((with_reducible refine gD (N := 13) rfl ?_); refine bE3 13 #[.int .u64 0, .int .u64 0] 24 ?hr ?_; (case hr => first | (go_simp; done) | (go_simp; rfl)); intro gb373 hg w123 hbox hb; have n0_ := aM (bB3 BK357.out hb); have n1_ := aM (bB3 BK363.out hb); have n2_ := aM (bB3 BK372.out hb); have n3_ := aM (bS3 HB.out hb); have n4_ := aM (hbox); have n5_ := aM ((bZ3 hg HB.out)); have n6_ := aM ((bZ3 hg HB.out)); have n7_ := aM ((bL3 hg BK357.out)); have n8_ := aM ((bG3 hg BK357.out)); have n9_ := aM ((bL3 hg BK363.out)); have n10_ := aM ((bG3 hg BK363.out)); have n11_ := aM ((bL3 hg BK372.out)); have n12_ := aM ((bG3 hg BK372.out)); clear BK357; clear BK363; clear BK372; clear HB; have BK357 := n0_; have BK363 := n1_; have BK372 := n2_; have HB := n3_; have BK373 := n4_; have GW373 := n5_; have GE373 := n6_; have NB357_373 := n7_; have NB373_357 := n8_; have NB363_373 := n9_; have NB373_363 := n10_; have NB372_373 := n11_; have NB373_372 := n12_; clear n0_ n1_ n2_ n3_ n4_ n5_ n6_ n7_ n8_ n9_ n10_ n11_ n12_; clear hb hbox hg; have hnb124 := NB372_357.out; have hnc124 := NB357_372.out; have hnb125 := NB372_363.out; have hnc125 := NB363_372.out; have hnb126 := NB372_373.out; have hnc126 := NB373_372.out; have hcz127_0 := blk_cellL BK372.out 0 _ rfl; have hcz127_1 := blk_cellL BK372.out 1 _ rfl; have hfz127_0 := bF BK372.out 0; have hfz127_1 := bF BK372.out 1; have hnb128 := NB373_357.out; have hnc128 := NB357_373.out; have hnb129 := NB373_363.out; have hnc129 := NB363_373.out; have hcz130_0 := blk_cellL BK373.out 0 _ rfl; have hcz130_1 := blk_cellL BK373.out 1 _ rfl; have hfz130_0 := bF BK373.out 0; have hfz130_1 := bF BK373.out 1))
          go_ret
          exact ⟨by first | rfl | (simp [errW_none, errW_some] <;> rfl) | (simp [*, errW_none, errW_some] <;> rfl), by repeat (first | (with_reducible first | exact HB.out | apply pA | apply pN | apply p1 | refine pS ?_ GE357.out | refine pS ?_ GE363.out | refine pS ?_ GE372.out | refine pS ?_ GE373.out) | exact HB.out)⟩
    · replace c8 := Bool.eq_false_iff.mpr c8
      subst c8
      have H1 : (some false) = some r := by rw [if_neg (show ¬ (false = true) by decide)] at H; exact H
      clear H
      have H := H1
      clear H1
      obtain rfl := Option.some.inj H
      go_enter Try.func4, Try.ntmps4
      go_wp2_with (first | ((with_reducible refine gD (N := 2) rfl ?_); refine bE3 2 #[.int .u64 a0_0, .int .u64 a0_1] 24 ?hr ?_; (case hr => first | (go_simp; done) | (go_simp; rfl)); intro gb357 hg w131 hbox hb; have n0_ := aM (bS3 HB.out hb); have n1_ := aM (hbox); have n2_ := aM ((bZ3 hg HB.out)); have n3_ := aM ((bZ3 hg HB.out)); clear HB; have HB := n0_; have BK357 := n1_; have GW357 := n2_; have GE357 := n3_; clear n0_ n1_ n2_ n3_; clear hb hbox hg) | ((with_reducible refine gC (f := 5) rfl ?_); refine gY (some 24) Try.func5 #[] ?_; (with_reducible refine (vernierlaw03_up.calls k  false _ A3.out).mono ?_); rintro e w132 ⟨rfl, hb⟩; refine ⟨_, rfl, ?_⟩; have n0_ := aM (bB3 BK357.out hb); have n1_ := aM (bS3 HB.out hb); clear BK357; clear HB; have BK357 := n0_; have HB := n1_; clear n0_ n1_; (try clear hb); have hcz133_0 := blk_cellL BK357.out 0 _ rfl; have hcz133_1 := blk_cellL BK357.out 1 _ rfl; have hfz133_0 := bF BK357.out 0; have hfz133_1 := bF BK357.out 1) | ((with_reducible refine gC (f := 9) rfl ?_); refine gY (some 28) Try.func9 #[.agg #[.int .u64 a0_0, .int .u64 a0_1], .int .u64 a1] ?_; (with_reducible refine (part_Long.calls k a0_0 a0_1 a1 t359 t360 t361 t362 _ A4.out).mono ?_); rintro e w134 ⟨rfl, hb⟩; refine ⟨_, rfl, ?_⟩; have n0_ := aM (bB3 BK357.out hb); have n1_ := aM (bS3 HB.out hb); clear BK357; clear HB; have BK357 := n0_; have HB := n1_; clear n0_ n1_; (try clear hb); (try simp only [errW_none, errW_some])) | ((with_reducible refine gD (N := 6) rfl ?_); refine bE3 6 #[.int .u64 0, .int .u64 0] 24 ?hr ?_; (case hr => first | (go_simp; done) | (go_simp; rfl)); intro gb363 hg w135 hbox hb; have n0_ := aM (bB3 BK357.out hb); have n1_ := aM (bS3 HB.out hb); have n2_ := aM (hbox); have n3_ := aM ((bZ3 hg HB.out)); have n4_ := aM ((bZ3 hg HB.out)); have n5_ := aM ((bL3 hg BK357.out)); have n6_ := aM ((bG3 hg BK357.out)); clear BK357; clear HB; have BK357 := n0_; have HB := n1_; have BK363 := n2_; have GW363 := n3_; have GE363 := n4_; have NB357_363 := n5_; have NB363_357 := n6_; clear n0_ n1_ n2_ n3_ n4_ n5_ n6_; clear hb hbox hg; have hnb136 := NB363_357.out; have hnc136 := NB357_363.out; have hcz137_0 := blk_cellL BK363.out 0 _ rfl; have hcz137_1 := blk_cellL BK363.out 1 _ rfl; have hfz137_0 := bF BK363.out 0; have hfz137_1 := bF BK363.out 1; have hcz138_0 := blk_cellL BK357.out 0 _ rfl; have hcz138_1 := blk_cellL BK357.out 1 _ rfl; have hfz138_0 := bF BK357.out 0; have hfz138_1 := bF BK357.out 1) | ((with_reducible refine gC (f := 10) rfl ?_); refine gY (some 35) Try.func10 #[.agg #[.int .u64 a0_0, .int .u64 a0_1], .int .u64 a1] ?_; (with_reducible refine (part_Div.calls k a0_0 a0_1 a1 t364 t365 t366 _ A5.out).mono ?_); rintro e w139 ⟨rfl, hb⟩; refine ⟨_, rfl, ?_⟩; have n0_ := aM (bB (g := gb357) (o := .cells #[.int .u64 a0_0, .int .u64 a0_1] 24 (0, 0)) (by (with_reducible repeat (first | refine bN ?_ _ | refine bD ?_ | refine bA ?_ _)); refine blk_far ?_ NB357_363.out _; (with_reducible repeat (first | refine bN ?_ _ | refine bD ?_ | refine bA ?_ _)); refine blk_far ?_ NB357_363.out _; (with_reducible repeat (first | refine bN ?_ _ | refine bD ?_ | refine bA ?_ _)); exact BK357.out) hb); have n1_ := aM (bB (g := gb363) (o := .cells #[.int .u64 t359, .int .u64 t360] 24 (0, 0)) (by (with_reducible repeat (first | refine bN ?_ _ | refine bD ?_ | refine bA ?_ _)); refine blk_put (cs := #[.int .u64 t359, .int .u64 0]) ?_ 1 _ rfl; (with_reducible repeat (first | refine bN ?_ _ | refine bD ?_ | refine bA ?_ _)); refine blk_put (cs := #[.int .u64 0, .int .u64 0]) ?_ 0 _ rfl; (with_reducible repeat (first | refine bN ?_ _ | refine bD ?_ | refine bA ?_ _)); exact BK363.out) hb); have n2_ := aM (bS3 HB.out hb); clear BK357; clear BK363; clear HB; have BK357 := n0_; have BK363 := n1_; have HB := n2_; clear n0_ n1_ n2_; (try clear hb); (try simp only [errW_none, errW_some]); have hcz140_0 := blk_cellL BK357.out 0 _ rfl; have hcz140_1 := blk_cellL BK357.out 1 _ rfl; have hfz140_0 := bF BK357.out 0; have hfz140_1 := bF BK357.out 1) | ((with_reducible refine gC (f := 6) rfl ?_); refine gY (some 43) Try.func6 #[.agg #[.int .u64 a0_0, .int .u64 a0_1], .agg #[.int .u64 0, .int .u64 a1]] ?_; (with_reducible refine (part_Wide.calls k a0_0 a0_1 0 a1 t367 t368 t369 t370 t371 _ A6.out).mono ?_); rintro e w141 ⟨rfl, hb⟩; refine ⟨_, rfl, ?_⟩; have n0_ := aM (bB3 BK357.out hb); have n1_ := aM (bB3 BK363.out hb); have n2_ := aM (bS3 HB.out hb); clear BK357; clear BK363; clear HB; have BK357 := n0_; have BK363 := n1_; have HB := n2_; clear n0_ n1_ n2_; (try clear hb); (try simp only [errW_none, errW_some])) | ((with_reducible refine gD (N := 12) rfl ?_); refine bE3 12 #[.int .u64 0, .int .u64 0] 24 ?hr ?_; (case hr => first | (go_simp; done) | (go_simp; rfl)); intro gb372 hg w142 hbox hb; have n0_ := aM (bB3 BK357.out hb); have n1_ := aM (bB3 BK363.out hb); have n2_ := aM (bS3 HB.out hb); have n3_ := aM (hbox); have n4_ := aM ((bZ3 hg HB.out)); have n5_ := aM ((bZ3 hg HB.out)); have n6_ := aM ((bL3 hg BK357.out)); have n7_ := aM ((bG3 hg BK357.out)); have n8_ := aM ((bL3 hg BK363.out)); have n9_ := aM ((bG3 hg BK363.out)); clear BK357; clear BK363; clear HB; have BK357 := n0_; have BK363 := n1_; have HB := n2_; have BK372 := n3_; have GW372 := n4_; have GE372 := n5_; have NB357_372 := n6_; have NB372_357 := n7_; have NB363_372 := n8_; have NB372_363 := n9_; clear n0_ n1_ n2_ n3_ n4_ n5_ n6_ n7_ n8_ n9_; clear hb hbox hg) | ((with_reducible refine gD (N := 13) rfl ?_); refine bE3 13 #[.int .u64 0, .int .u64 0] 24 ?hr ?_; (case hr => first | (go_simp; done) | (go_simp; rfl)); intro gb373 hg w143 hbox hb; have n0_ := aM (bB3 BK357.out hb); have n1_ := aM (bB3 BK363.out hb); have n2_ := aM (bB3 BK372.out hb); have n3_ := aM (bS3 HB.out hb); have n4_ := aM (hbox); have n5_ := aM ((bZ3 hg HB.out)); have n6_ := aM ((bZ3 hg HB.out)); have n7_ := aM ((bL3 hg BK357.out)); have n8_ := aM ((bG3 hg BK357.out)); have n9_ := aM ((bL3 hg BK363.out)); have n10_ := aM ((bG3 hg BK363.out)); have n11_ := aM ((bL3 hg BK372.out)); have n12_ := aM ((bG3 hg BK372.out)); clear BK357; clear BK363; clear BK372; clear HB; have BK357 := n0_; have BK363 := n1_; have BK372 := n2_; have HB := n3_; have BK373 := n4_; have GW373 := n5_; have GE373 := n6_; have NB357_373 := n7_; have NB373_357 := n8_; have NB363_373 := n9_; have NB373_363 := n10_; have NB372_373 := n11_; have NB373_372 := n12_; clear n0_ n1_ n2_ n3_ n4_ n5_ n6_ n7_ n8_ n9_ n10_ n11_ n12_; clear hb hbox hg; have hnb144 := NB372_357.out; have hnc144 := NB357_372.out; have hnb145 := NB372_363.out; have hnc145 := NB363_372.out; have hnb146 := NB372_373.out; have hnc146 := NB373_372.out; have hcz147_0 := blk_cellL BK372.out 0 _ rfl; have hcz147_1 := blk_cellL BK372.out 1 _ rfl; have hfz147_0 := bF BK372.out 0; have hfz147_1 := bF BK372.out 1; have hnb148 := NB373_357.out; have hnc148 := NB357_373.out; have hnb149 := NB373_363.out; have hnc149 := NB363_373.out; have hcz150_0 := blk_cellL BK373.out 0 _ rfl; have hcz150_1 := blk_cellL BK373.out 1 _ rfl; have hfz150_0 := bF BK373.out 0; have hfz150_1 := bF BK373.out 1))
      go_ret
      exact ⟨by first | rfl | (simp [errW_none, errW_some] <;> rfl) | (simp [*, errW_none, errW_some] <;> rfl), by repeat (first | (with_reducible first | exact HB.out | apply pA | apply pN | apply p1 | refine pS ?_ GE357.out | refine pS ?_ GE363.out | refine pS ?_ GE372.out | refine pS ?_ GE373.out) | exact HB.out)⟩
  · rw [if_neg c7] at H
    have c7b0 : (a1 == 0) = false := beq_eq_false_iff_ne.mpr c7
    have c7b1 : (a1 != 0) = true := bne_iff_ne.mpr c7
    have HC151 := aM H
    clear H
    go_enter Try.func4, Try.ntmps4
    go_upto_region 7 with (first | ((with_reducible refine gD (N := 2) rfl ?_); refine bE3 2 #[.int .u64 a0_0, .int .u64 a0_1] 24 ?hr ?_; (case hr => first | (go_simp; done) | (go_simp; rfl)); intro gb357 hg w152 hbox hb; have n0_ := aM (bS3 HB.out hb); have n1_ := aM (hbox); have n2_ := aM ((bZ3 hg HB.out)); have n3_ := aM ((bZ3 hg HB.out)); clear HB; have HB := n0_; have BK357 := n1_; have GW357 := n2_; have GE357 := n3_; clear n0_ n1_ n2_ n3_; clear hb hbox hg) | ((with_reducible refine gC (f := 5) rfl ?_); refine gY (some 24) Try.func5 #[] ?_; (with_reducible refine (vernierlaw03_up.calls k  t358 _ A3.out).mono ?_); rintro e w153 ⟨rfl, hb⟩; refine ⟨_, rfl, ?_⟩; have n0_ := aM (bB3 BK357.out hb); have n1_ := aM (bS3 HB.out hb); clear BK357; clear HB; have BK357 := n0_; have HB := n1_; clear n0_ n1_; (try clear hb); have hcz154_0 := blk_cellL BK357.out 0 _ rfl; have hcz154_1 := blk_cellL BK357.out 1 _ rfl; have hfz154_0 := bF BK357.out 0; have hfz154_1 := bF BK357.out 1) | ((with_reducible refine gC (f := 9) rfl ?_); refine gY (some 28) Try.func9 #[.agg #[.int .u64 a0_0, .int .u64 a0_1], .int .u64 a1] ?_; (with_reducible refine (part_Long.calls k a0_0 a0_1 a1 t359 t360 t361 t362 _ A4.out).mono ?_); rintro e w155 ⟨rfl, hb⟩; refine ⟨_, rfl, ?_⟩; have n0_ := aM (bB3 BK357.out hb); have n1_ := aM (bS3 HB.out hb); clear BK357; clear HB; have BK357 := n0_; have HB := n1_; clear n0_ n1_; (try clear hb); (try simp only [errW_none, errW_some])) | ((with_reducible refine gD (N := 6) rfl ?_); refine bE3 6 #[.int .u64 0, .int .u64 0] 24 ?hr ?_; (case hr => first | (go_simp; done) | (go_simp; rfl)); intro gb363 hg w156 hbox hb; have n0_ := aM (bB3 BK357.out hb); have n1_ := aM (bS3 HB.out hb); have n2_ := aM (hbox); have n3_ := aM ((bZ3 hg HB.out)); have n4_ := aM ((bZ3 hg HB.out)); have n5_ := aM ((bL3 hg BK357.out)); have n6_ := aM ((bG3 hg BK357.out)); clear BK357; clear HB; have BK357 := n0_; have HB := n1_; have BK363 := n2_; have GW363 := n3_; have GE363 := n4_; have NB357_363 := n5_; have NB363_357 := n6_; clear n0_ n1_ n2_ n3_ n4_ n5_ n6_; clear hb hbox hg; have hnb157 := NB363_357.out; have hnc157 := NB357_363.out; have hcz158_0 := blk_cellL BK363.out 0 _ rfl; have hcz158_1 := blk_cellL BK363.out 1 _ rfl; have hfz158_0 := bF BK363.out 0; have hfz158_1 := bF BK363.out 1; have hcz159_0 := blk_cellL BK357.out 0 _ rfl; have hcz159_1 := blk_cellL BK357.out 1 _ rfl; have hfz159_0 := bF BK357.out 0; have hfz159_1 := bF BK357.out 1) | ((with_reducible refine gC (f := 10) rfl ?_); refine gY (some 35) Try.func10 #[.agg #[.int .u64 a0_0, .int .u64 a0_1], .int .u64 a1] ?_; (with_reducible refine (part_Div.calls k a0_0 a0_1 a1 t364 t365 t366 _ A5.out).mono ?_); rintro e w160 ⟨rfl, hb⟩; refine ⟨_, rfl, ?_⟩; have n0_ := aM (bB (g := gb357) (o := .cells #[.int .u64 a0_0, .int .u64 a0_1] 24 (0, 0)) (by (with_reducible repeat (first | refine bN ?_ _ | refine bD ?_ | refine bA ?_ _)); refine blk_far ?_ NB357_363.out _; (with_reducible repeat (first | refine bN ?_ _ | refine bD ?_ | refine bA ?_ _)); refine blk_far ?_ NB357_363.out _; (with_reducible repeat (first | refine bN ?_ _ | refine bD ?_ | refine bA ?_ _)); exact BK357.out) hb); have n1_ := aM (bB (g := gb363) (o := .cells #[.int .u64 t359, .int .u64 t360] 24 (0, 0)) (by (with_reducible repeat (first | refine bN ?_ _ | refine bD ?_ | refine bA ?_ _)); refine blk_put (cs := #[.int .u64 t359, .int .u64 0]) ?_ 1 _ rfl; (with_reducible repeat (first | refine bN ?_ _ | refine bD ?_ | refine bA ?_ _)); refine blk_put (cs := #[.int .u64 0, .int .u64 0]) ?_ 0 _ rfl; (with_reducible repeat (first | refine bN ?_ _ | refine bD ?_ | refine bA ?_ _)); exact BK363.out) hb); have n2_ := aM (bS3 HB.out hb); clear BK357; clear BK363; clear HB; have BK357 := n0_; have BK363 := n1_; have HB := n2_; clear n0_ n1_ n2_; (try clear hb); (try simp only [errW_none, errW_some]); have hcz161_0 := blk_cellL BK357.out 0 _ rfl; have hcz161_1 := blk_cellL BK357.out 1 _ rfl; have hfz161_0 := bF BK357.out 0; have hfz161_1 := bF BK357.out 1) | ((with_reducible refine gC (f := 6) rfl ?_); refine gY (some 43) Try.func6 #[.agg #[.int .u64 a0_0, .int .u64 a0_1], .agg #[.int .u64 0, .int .u64 a1]] ?_; (with_reducible refine (part_Wide.calls k a0_0 a0_1 0 a1 t367 t368 t369 t370 t371 _ A6.out).mono ?_); rintro e w162 ⟨rfl, hb⟩; refine ⟨_, rfl, ?_⟩; have n0_ := aM (bB3 BK357.out hb); have n1_ := aM (bB3 BK363.out hb); have n2_ := aM (bS3 HB.out hb); clear BK357; clear BK363; clear HB; have BK357 := n0_; have BK363 := n1_; have HB := n2_; clear n0_ n1_ n2_; (try clear hb); (try simp only [errW_none, errW_some])) | ((with_reducible refine gD (N := 12) rfl ?_); refine bE3 12 #[.int .u64 0, .int .u64 0] 24 ?hr ?_; (case hr => first | (go_simp; done) | (go_simp; rfl)); intro gb372 hg w163 hbox hb; have n0_ := aM (bB3 BK357.out hb); have n1_ := aM (bB3 BK363.out hb); have n2_ := aM (bS3 HB.out hb); have n3_ := aM (hbox); have n4_ := aM ((bZ3 hg HB.out)); have n5_ := aM ((bZ3 hg HB.out)); have n6_ := aM ((bL3 hg BK357.out)); have n7_ := aM ((bG3 hg BK357.out)); have n8_ := aM ((bL3 hg BK363.out)); have n9_ := aM ((bG3 hg BK363.out)); clear BK357; clear BK363; clear HB; have BK357 := n0_; have BK363 := n1_; have HB := n2_; have BK372 := n3_; have GW372 := n4_; have GE372 := n5_; have NB357_372 := n6_; have NB372_357 := n7_; have NB363_372 := n8_; have NB372_363 := n9_; clear n0_ n1_ n2_ n3_ n4_ n5_ n6_ n7_ n8_ n9_; clear hb hbox hg) | ((with_reducible refine gD (N := 13) rfl ?_); refine bE3 13 #[.int .u64 0, .int .u64 0] 24 ?hr ?_; (case hr => first | (go_simp; done) | (go_simp; rfl)); intro gb373 hg w164 hbox hb; have n0_ := aM (bB3 BK357.out hb); have n1_ := aM (bB3 BK363.out hb); have n2_ := aM (bB3 BK372.out hb); have n3_ := aM (bS3 HB.out hb); have n4_ := aM (hbox); have n5_ := aM ((bZ3 hg HB.out)); have n6_ := aM ((bZ3 hg HB.out)); have n7_ := aM ((bL3 hg BK357.out)); have n8_ := aM ((bG3 hg BK357.out)); have n9_ := aM ((bL3 hg BK363.out)); have n10_ := aM ((bG3 hg BK363.out)); have n11_ := aM ((bL3 hg BK372.out)); have n12_ := aM ((bG3 hg BK372.out)); clear BK357; clear BK363; clear BK372; clear HB; have BK357 := n0_; have BK363 := n1_; have BK372 := n2_; have HB := n3_; have BK373 := n4_; have GW373 := n5_; have GE373 := n6_; have NB357_373 := n7_; have NB373_357 := n8_; have NB363_373 := n9_; have NB373_363 := n10_; have NB372_373 := n11_; have NB373_372 := n12_; clear n0_ n1_ n2_ n3_ n4_ n5_ n6_ n7_ n8_ n9_ n10_ n11_ n12_; clear hb hbox hg; have hnb165 := NB372_357.out; have hnc165 := NB357_372.out; have hnb166 := NB372_363.out; have hnc166 := NB363_372.out; have hnb167 := NB372_373.out; have hnc167 := NB373_372.out; have hcz168_0 := blk_cellL BK372.out 0 _ rfl; have hcz168_1 := blk_cellL BK372.out 1 _ rfl; have hfz168_0 := bF BK372.out 0; have hfz168_1 := bF BK372.out 1; have hnb169 := NB373_357.out; have hnc169 := NB357_373.out; have hnb170 := NB373_363.out; have hnc170 := NB363_373.out; have hcz171_0 := blk_cellL BK373.out 0 _ rfl; have hcz171_1 := blk_cellL BK373.out 1 _ rfl; have hfz171_0 := bF BK373.out 0; have hfz171_1 := bF BK373.out 1))
    (try simp only [Act.put, lS, lZ, lC])
    go_cut [90] (fun v90 wc => ∃ (kq : Nat) (x90_150 : Bool), v90 = .bool x90_150 ∧ Aside0 (vernierlaw03_PartBack.j0 kq a1 t361 t364 t365 t366 x90_150 a0_0 a0_1 t359 t360 = some r) ∧ Aside0 (kq ≤ k) ∧ Aside0 (wc.heap[gb357]? = some (.cells #[.int .u64 a0_0, .int .u64 a0_1] 24 (0, 0))) ∧ Aside0 (wc.heap[gb363]? = some (.cells #[.int .u64 t359, .int .u64 t360] 24 (0, 0))) ∧ Aside0 (wc.heap[gb372]? = some (.cells #[.int .u64 t367, .int .u64 t368] 24 (0, 0))) ∧ Aside0 (wc.heap[gb373]? = some (.cells #[.int .u64 t369, .int .u64 t370] 24 (0, 0))) ∧ Aside0 (Below w.heap.size w wc))
    case first =>
      have H := HC151.out
      clear HC151
      by_cases c172 : t358 = true
      · subst c172
        have H1 : (if t362.isNone = true then (if t371.isNone = true then (if (!(t367 == t359) || (!(t368 == t360))) = true then (vernierlaw03_PartBack.j0 k a1 t361 t364 t365 t366 true a0_0 a0_1 t359 t360) else (if (!(t369 == 0) || (!(t370 == t361))) = true then (vernierlaw03_PartBack.j0 k a1 t361 t364 t365 t366 true a0_0 a0_1 t359 t360) else (vernierlaw03_PartBack.j0 k a1 t361 t364 t365 t366 (decide (t361 ≥ a1)) a0_0 a0_1 t359 t360))) else (vernierlaw03_PartBack.j0 k a1 t361 t364 t365 t366 true a0_0 a0_1 t359 t360)) else (vernierlaw03_PartBack.j0 k a1 t361 t364 t365 t366 true a0_0 a0_1 t359 t360)) = some r := by rw [if_pos rfl] at H; exact H
        clear H
        have H := H1
        clear H1
        rcases t362 with _ | q377
        · have H1 : (if t371.isNone = true then (if (!(t367 == t359) || (!(t368 == t360))) = true then (vernierlaw03_PartBack.j0 k a1 t361 t364 t365 t366 true a0_0 a0_1 t359 t360) else (if (!(t369 == 0) || (!(t370 == t361))) = true then (vernierlaw03_PartBack.j0 k a1 t361 t364 t365 t366 true a0_0 a0_1 t359 t360) else (vernierlaw03_PartBack.j0 k a1 t361 t364 t365 t366 (decide (t361 ≥ a1)) a0_0 a0_1 t359 t360))) else (vernierlaw03_PartBack.j0 k a1 t361 t364 t365 t366 true a0_0 a0_1 t359 t360)) = some r := by rw [if_pos (show (none : Option Int).isNone = true by rfl)] at H; exact H
          clear H
          have H := H1
          clear H1
          try simp only [errW_none, errW_some]
          rcases t371 with _ | q378
          · have H1 : (if (!(t367 == t359) || (!(t368 == t360))) = true then (vernierlaw03_PartBack.j0 k a1 t361 t364 t365 t366 true a0_0 a0_1 t359 t360) else (if (!(t369 == 0) || (!(t370 == t361))) = true then (vernierlaw03_PartBack.j0 k a1 t361 t364 t365 t366 true a0_0 a0_1 t359 t360) else (vernierlaw03_PartBack.j0 k a1 t361 t364 t365 t366 (decide (t361 ≥ a1)) a0_0 a0_1 t359 t360))) = some r := by rw [if_pos (show (none : Option Int).isNone = true by rfl)] at H; exact H
            clear H
            have H := H1
            clear H1
            try simp only [errW_none, errW_some]
            by_cases c173 : (!(t367 == t359) || (!(t368 == t360))) = true
            · rw [if_pos c173] at H
              have c173b0 : (!(t367 == t359) || (!(t368 == t360))) = true := c173
              clear c173
              (first | rw [c173b0] | (simp only [i64_w, i32_w]; rw [c173b0]) | skip)
              have H' := aM H
              clear H
              have hnb174 := NB372_357.out
              have hnc174 := NB357_372.out
              have hnb175 := NB372_363.out
              have hnc175 := NB363_372.out
              have hnb176 := NB372_373.out
              have hnc176 := NB373_372.out
              have hcz177_0 := blk_cellL BK372.out 0 _ rfl
              have hcz177_1 := blk_cellL BK372.out 1 _ rfl
              have hfz177_0 := bF BK372.out 0
              have hfz177_1 := bF BK372.out 1
              have hnb178 := NB363_357.out
              have hnc178 := NB357_363.out
              have hnb179 := NB363_373.out
              have hnc179 := NB373_363.out
              have hcz180_0 := blk_cellL BK363.out 0 _ rfl
              have hcz180_1 := blk_cellL BK363.out 1 _ rfl
              have hfz180_0 := bF BK363.out 0
              have hfz180_1 := bF BK363.out 1
              go_wp2
              go_meet
              case rel => exact ⟨_, (true), (by first | rfl | (simp; done) | (simp [*]; done)), H', ⟨by first | omega | exact Nat.le_refl _⟩, ⟨by (with_reducible repeat (first | refine bN ?_ _ | refine bD ?_ | refine bA ?_ _)); refine blk_far ?_ NB357_373.out _; (with_reducible repeat (first | refine bN ?_ _ | refine bD ?_ | refine bA ?_ _)); refine blk_far ?_ NB357_373.out _; (with_reducible repeat (first | refine bN ?_ _ | refine bD ?_ | refine bA ?_ _)); refine blk_far ?_ NB357_372.out _; (with_reducible repeat (first | refine bN ?_ _ | refine bD ?_ | refine bA ?_ _)); refine blk_far ?_ NB357_372.out _; (with_reducible repeat (first | refine bN ?_ _ | refine bD ?_ | refine bA ?_ _)); exact BK357.out⟩, ⟨by (with_reducible repeat (first | refine bN ?_ _ | refine bD ?_ | refine bA ?_ _)); refine blk_far ?_ NB363_373.out _; (with_reducible repeat (first | refine bN ?_ _ | refine bD ?_ | refine bA ?_ _)); refine blk_far ?_ NB363_373.out _; (with_reducible repeat (first | refine bN ?_ _ | refine bD ?_ | refine bA ?_ _)); refine blk_far ?_ NB363_372.out _; (with_reducible repeat (first | refine bN ?_ _ | refine bD ?_ | refine bA ?_ _)); refine blk_far ?_ NB363_372.out _; (with_reducible repeat (first | refine bN ?_ _ | refine bD ?_ | refine bA ?_ _)); exact BK363.out⟩, ⟨by (with_reducible repeat (first | refine bN ?_ _ | refine bD ?_ | refine bA ?_ _)); refine blk_far ?_ NB372_373.out _; (with_reducible repeat (first | refine bN ?_ _ | refine bD ?_ | refine bA ?_ _)); refine blk_far ?_ NB372_373.out _; (with_reducible repeat (first | refine bN ?_ _ | refine bD ?_ | refine bA ?_ _)); refine blk_put (cs := #[.int .u64 t367, .int .u64 0]) ?_ 1 _ rfl; (with_reducible repeat (first | refine bN ?_ _ | refine bD ?_ | refine bA ?_ _)); refine blk_put (cs := #[.int .u64 0, .int .u64 0]) ?_ 0 _ rfl; (with_reducible repeat (first | refine bN ?_ _ | refine bD ?_ | refine bA ?_ _)); exact BK372.out⟩, ⟨by (with_reducible repeat (first | refine bN ?_ _ | refine bD ?_ | refine bA ?_ _)); refine blk_put (cs := #[.int .u64 t369, .int .u64 0]) ?_ 1 _ rfl; (with_reducible repeat (first | refine bN ?_ _ | refine bD ?_ | refine bA ?_ _)); refine blk_put (cs := #[.int .u64 0, .int .u64 0]) ?_ 0 _ rfl; (with_reducible repeat (first | refine bN ?_ _ | refine bD ?_ | refine bA ?_ _)); refine blk_far ?_ NB373_372.out _; (with_reducible repeat (first | refine bN ?_ _ | refine bD ?_ | refine bA ?_ _)); refine blk_far ?_ NB373_372.out _; (with_reducible repeat (first | refine bN ?_ _ | refine bD ?_ | refine bA ?_ _)); exact BK373.out⟩, ⟨by repeat (first | (with_reducible first | exact HB.out | apply pA | apply pN | apply p1 | refine pS ?_ GE357.out | refine pS ?_ GE363.out | refine pS ?_ GE372.out | refine pS ?_ GE373.out) | exact HB.out)⟩⟩
            · rw [if_neg c173] at H
              have c173b0 : (!(t367 == t359) || (!(t368 == t360))) = false := by simpa using c173
              clear c173
              (first | rw [c173b0] | (simp only [i64_w, i32_w]; rw [c173b0]) | skip)
              by_cases c181 : (!(t369 == 0) || (!(t370 == t361))) = true
              · rw [if_pos c181] at H
                have c181b0 : (!(t369 == 0) || (!(t370 == t361))) = true := c181
                clear c181
                have H' := aM H
                clear H
                have hnb182 := NB372_357.out
                have hnc182 := NB357_372.out
                have hnb183 := NB372_363.out
                have hnc183 := NB363_372.out
                have hnb184 := NB372_373.out
                have hnc184 := NB373_372.out
                have hcz185_0 := blk_cellL BK372.out 0 _ rfl
                have hcz185_1 := blk_cellL BK372.out 1 _ rfl
                have hfz185_0 := bF BK372.out 0
                have hfz185_1 := bF BK372.out 1
                have hnb186 := NB363_357.out
                have hnc186 := NB357_363.out
                have hnb187 := NB363_373.out
                have hnc187 := NB373_363.out
                have hcz188_0 := blk_cellL BK363.out 0 _ rfl
                have hcz188_1 := blk_cellL BK363.out 1 _ rfl
                have hfz188_0 := bF BK363.out 0
                have hfz188_1 := bF BK363.out 1
                have hnb189 := NB373_357.out
                have hnc189 := NB357_373.out
                have hcz190_0 := blk_cellL BK373.out 0 _ rfl
                have hcz190_1 := blk_cellL BK373.out 1 _ rfl
                have hfz190_0 := bF BK373.out 0
                have hfz190_1 := bF BK373.out 1
                go_wp2
                go_meet
                case rel => exact ⟨_, (true), (by first | rfl | (simp; done) | (simp [*]; done)), H', ⟨by first | omega | exact Nat.le_refl _⟩, ⟨by (with_reducible repeat (first | refine bN ?_ _ | refine bD ?_ | refine bA ?_ _)); refine blk_far ?_ NB357_373.out _; (with_reducible repeat (first | refine bN ?_ _ | refine bD ?_ | refine bA ?_ _)); refine blk_far ?_ NB357_373.out _; (with_reducible repeat (first | refine bN ?_ _ | refine bD ?_ | refine bA ?_ _)); refine blk_far ?_ NB357_372.out _; (with_reducible repeat (first | refine bN ?_ _ | refine bD ?_ | refine bA ?_ _)); refine blk_far ?_ NB357_372.out _; (with_reducible repeat (first | refine bN ?_ _ | refine bD ?_ | refine bA ?_ _)); exact BK357.out⟩, ⟨by (with_reducible repeat (first | refine bN ?_ _ | refine bD ?_ | refine bA ?_ _)); refine blk_far ?_ NB363_373.out _; (with_reducible repeat (first | refine bN ?_ _ | refine bD ?_ | refine bA ?_ _)); refine blk_far ?_ NB363_373.out _; (with_reducible repeat (first | refine bN ?_ _ | refine bD ?_ | refine bA ?_ _)); refine blk_far ?_ NB363_372.out _; (with_reducible repeat (first | refine bN ?_ _ | refine bD ?_ | refine bA ?_ _)); refine blk_far ?_ NB363_372.out _; (with_reducible repeat (first | refine bN ?_ _ | refine bD ?_ | refine bA ?_ _)); exact BK363.out⟩, ⟨by (with_reducible repeat (first | refine bN ?_ _ | refine bD ?_ | refine bA ?_ _)); refine blk_far ?_ NB372_373.out _; (with_reducible repeat (first | refine bN ?_ _ | refine bD ?_ | refine bA ?_ _)); refine blk_far ?_ NB372_373.out _; (with_reducible repeat (first | refine bN ?_ _ | refine bD ?_ | refine bA ?_ _)); refine blk_put (cs := #[.int .u64 t367, .int .u64 0]) ?_ 1 _ rfl; (with_reducible repeat (first | refine bN ?_ _ | refine bD ?_ | refine bA ?_ _)); refine blk_put (cs := #[.int .u64 0, .int .u64 0]) ?_ 0 _ rfl; (with_reducible repeat (first | refine bN ?_ _ | refine bD ?_ | refine bA ?_ _)); exact BK372.out⟩, ⟨by (with_reducible repeat (first | refine bN ?_ _ | refine bD ?_ | refine bA ?_ _)); refine blk_put (cs := #[.int .u64 t369, .int .u64 0]) ?_ 1 _ rfl; (with_reducible repeat (first | refine bN ?_ _ | refine bD ?_ | refine bA ?_ _)); refine blk_put (cs := #[.int .u64 0, .int .u64 0]) ?_ 0 _ rfl; (with_reducible repeat (first | refine bN ?_ _ | refine bD ?_ | refine bA ?_ _)); refine blk_far ?_ NB373_372.out _; (with_reducible repeat (first | refine bN ?_ _ | refine bD ?_ | refine bA ?_ _)); refine blk_far ?_ NB373_372.out _; (with_reducible repeat (first | refine bN ?_ _ | refine bD ?_ | refine bA ?_ _)); exact BK373.out⟩, ⟨by repeat (first | (with_reducible first | exact HB.out | apply pA | apply pN | apply p1 | refine pS ?_ GE357.out | refine pS ?_ GE363.out | refine pS ?_ GE372.out | refine pS ?_ GE373.out) | exact HB.out)⟩⟩
              · rw [if_neg c181] at H
                have c181b0 : (!(t369 == 0) || (!(t370 == t361))) = false := by simpa using c181
                clear c181
                have H' := aM H
                clear H
                have hnb191 := NB372_357.out
                have hnc191 := NB357_372.out
                have hnb192 := NB372_363.out
                have hnc192 := NB363_372.out
                have hnb193 := NB372_373.out
                have hnc193 := NB373_372.out
                have hcz194_0 := blk_cellL BK372.out 0 _ rfl
                have hcz194_1 := blk_cellL BK372.out 1 _ rfl
                have hfz194_0 := bF BK372.out 0
                have hfz194_1 := bF BK372.out 1
                have hnb195 := NB363_357.out
                have hnc195 := NB357_363.out
                have hnb196 := NB363_373.out
                have hnc196 := NB373_363.out
                have hcz197_0 := blk_cellL BK363.out 0 _ rfl
                have hcz197_1 := blk_cellL BK363.out 1 _ rfl
                have hfz197_0 := bF BK363.out 0
                have hfz197_1 := bF BK363.out 1
                have hnb198 := NB373_357.out
                have hnc198 := NB357_373.out
                have hcz199_0 := blk_cellL BK373.out 0 _ rfl
                have hcz199_1 := blk_cellL BK373.out 1 _ rfl
                have hfz199_0 := bF BK373.out 0
                have hfz199_1 := bF BK373.out 1
                go_wp2
                go_meet
                case rel => exact ⟨_, (decide (t361 ≥ a1)), (by first | rfl | (simp; done) | (simp [*]; done)), H', ⟨by first | omega | exact Nat.le_refl _⟩, ⟨by (with_reducible repeat (first | refine bN ?_ _ | refine bD ?_ | refine bA ?_ _)); refine blk_far ?_ NB357_373.out _; (with_reducible repeat (first | refine bN ?_ _ | refine bD ?_ | refine bA ?_ _)); refine blk_far ?_ NB357_373.out _; (with_reducible repeat (first | refine bN ?_ _ | refine bD ?_ | refine bA ?_ _)); refine blk_far ?_ NB357_372.out _; (with_reducible repeat (first | refine bN ?_ _ | refine bD ?_ | refine bA ?_ _)); refine blk_far ?_ NB357_372.out _; (with_reducible repeat (first | refine bN ?_ _ | refine bD ?_ | refine bA ?_ _)); exact BK357.out⟩, ⟨by (with_reducible repeat (first | refine bN ?_ _ | refine bD ?_ | refine bA ?_ _)); refine blk_far ?_ NB363_373.out _; (with_reducible repeat (first | refine bN ?_ _ | refine bD ?_ | refine bA ?_ _)); refine blk_far ?_ NB363_373.out _; (with_reducible repeat (first | refine bN ?_ _ | refine bD ?_ | refine bA ?_ _)); refine blk_far ?_ NB363_372.out _; (with_reducible repeat (first | refine bN ?_ _ | refine bD ?_ | refine bA ?_ _)); refine blk_far ?_ NB363_372.out _; (with_reducible repeat (first | refine bN ?_ _ | refine bD ?_ | refine bA ?_ _)); exact BK363.out⟩, ⟨by (with_reducible repeat (first | refine bN ?_ _ | refine bD ?_ | refine bA ?_ _)); refine blk_far ?_ NB372_373.out _; (with_reducible repeat (first | refine bN ?_ _ | refine bD ?_ | refine bA ?_ _)); refine blk_far ?_ NB372_373.out _; (with_reducible repeat (first | refine bN ?_ _ | refine bD ?_ | refine bA ?_ _)); refine blk_put (cs := #[.int .u64 t367, .int .u64 0]) ?_ 1 _ rfl; (with_reducible repeat (first | refine bN ?_ _ | refine bD ?_ | refine bA ?_ _)); refine blk_put (cs := #[.int .u64 0, .int .u64 0]) ?_ 0 _ rfl; (with_reducible repeat (first | refine bN ?_ _ | refine bD ?_ | refine bA ?_ _)); exact BK372.out⟩, ⟨by (with_reducible repeat (first | refine bN ?_ _ | refine bD ?_ | refine bA ?_ _)); refine blk_put (cs := #[.int .u64 t369, .int .u64 0]) ?_ 1 _ rfl; (with_reducible repeat (first | refine bN ?_ _ | refine bD ?_ | refine bA ?_ _)); refine blk_put (cs := #[.int .u64 0, .int .u64 0]) ?_ 0 _ rfl; (with_reducible repeat (first | refine bN ?_ _ | refine bD ?_ | refine bA ?_ _)); refine blk_far ?_ NB373_372.out _; (with_reducible repeat (first | refine bN ?_ _ | refine bD ?_ | refine bA ?_ _)); refine blk_far ?_ NB373_372.out _; (with_reducible repeat (first | refine bN ?_ _ | refine bD ?_ | refine bA ?_ _)); exact BK373.out⟩, ⟨by repeat (first | (with_reducible first | exact HB.out | apply pA | apply pN | apply p1 | refine pS ?_ GE357.out | refine pS ?_ GE363.out | refine pS ?_ GE372.out | refine pS ?_ GE373.out) | exact HB.out)⟩⟩
          · have H1 : (vernierlaw03_PartBack.j0 k a1 t361 t364 t365 t366 true a0_0 a0_1 t359 t360) = some r := by rw [if_neg (show ¬ (some q378).isNone = true by simp)] at H; exact H
            clear H
            have H := H1
            clear H1
            try simp only [errW_none, errW_some]
            have H' := aM H
            clear H
            go_wp2
            go_meet
            case rel => exact ⟨_, (true), (by first | rfl | (simp; done) | (simp [*]; done)), H', ⟨by first | omega | exact Nat.le_refl _⟩, ⟨by (with_reducible repeat (first | refine bN ?_ _ | refine bD ?_ | refine bA ?_ _)); refine blk_far ?_ NB357_373.out _; (with_reducible repeat (first | refine bN ?_ _ | refine bD ?_ | refine bA ?_ _)); refine blk_far ?_ NB357_373.out _; (with_reducible repeat (first | refine bN ?_ _ | refine bD ?_ | refine bA ?_ _)); refine blk_far ?_ NB357_372.out _; (with_reducible repeat (first | refine bN ?_ _ | refine bD ?_ | refine bA ?_ _)); refine blk_far ?_ NB357_372.out _; (with_reducible repeat (first | refine bN ?_ _ | refine bD ?_ | refine bA ?_ _)); exact BK357.out⟩, ⟨by (with_reducible repeat (first | refine bN ?_ _ | refine bD ?_ | refine bA ?_ _)); refine blk_far ?_ NB363_373.out _; (with_reducible repeat (first | refine bN ?_ _ | refine bD ?_ | refine bA ?_ _)); refine blk_far ?_ NB363_373.out _; (with_reducible repeat (first | refine bN ?_ _ | refine bD ?_ | refine bA ?_ _)); refine blk_far ?_ NB363_372.out _; (with_reducible repeat (first | refine bN ?_ _ | refine bD ?_ | refine bA ?_ _)); refine blk_far ?_ NB363_372.out _; (with_reducible repeat (first | refine bN ?_ _ | refine bD ?_ | refine bA ?_ _)); exact BK363.out⟩, ⟨by (with_reducible repeat (first | refine bN ?_ _ | refine bD ?_ | refine bA ?_ _)); refine blk_far ?_ NB372_373.out _; (with_reducible repeat (first | refine bN ?_ _ | refine bD ?_ | refine bA ?_ _)); refine blk_far ?_ NB372_373.out _; (with_reducible repeat (first | refine bN ?_ _ | refine bD ?_ | refine bA ?_ _)); refine blk_put (cs := #[.int .u64 t367, .int .u64 0]) ?_ 1 _ rfl; (with_reducible repeat (first | refine bN ?_ _ | refine bD ?_ | refine bA ?_ _)); refine blk_put (cs := #[.int .u64 0, .int .u64 0]) ?_ 0 _ rfl; (with_reducible repeat (first | refine bN ?_ _ | refine bD ?_ | refine bA ?_ _)); exact BK372.out⟩, ⟨by (with_reducible repeat (first | refine bN ?_ _ | refine bD ?_ | refine bA ?_ _)); refine blk_put (cs := #[.int .u64 t369, .int .u64 0]) ?_ 1 _ rfl; (with_reducible repeat (first | refine bN ?_ _ | refine bD ?_ | refine bA ?_ _)); refine blk_put (cs := #[.int .u64 0, .int .u64 0]) ?_ 0 _ rfl; (with_reducible repeat (first | refine bN ?_ _ | refine bD ?_ | refine bA ?_ _)); refine blk_far ?_ NB373_372.out _; (with_reducible repeat (first | refine bN ?_ _ | refine bD ?_ | refine bA ?_ _)); refine blk_far ?_ NB373_372.out _; (with_reducible repeat (first | refine bN ?_ _ | refine bD ?_ | refine bA ?_ _)); exact BK373.out⟩, ⟨by repeat (first | (with_reducible first | exact HB.out | apply pA | apply pN | apply p1 | refine pS ?_ GE357.out | refine pS ?_ GE363.out | refine pS ?_ GE372.out | refine pS ?_ GE373.out) | exact HB.out)⟩⟩
        · have H1 : (vernierlaw03_PartBack.j0 k a1 t361 t364 t365 t366 true a0_0 a0_1 t359 t360) = some r := by rw [if_neg (show ¬ (some q377).isNone = true by simp)] at H; exact H
          clear H
          have H := H1
          clear H1
          try simp only [errW_none, errW_some]
          have H' := aM H
          clear H
          go_wp2
          go_meet
          case rel => exact ⟨_, (true), (by first | rfl | (simp; done) | (simp [*]; done)), H', ⟨by first | omega | exact Nat.le_refl _⟩, ⟨by (with_reducible repeat (first | refine bN ?_ _ | refine bD ?_ | refine bA ?_ _)); refine blk_far ?_ NB357_373.out _; (with_reducible repeat (first | refine bN ?_ _ | refine bD ?_ | refine bA ?_ _)); refine blk_far ?_ NB357_373.out _; (with_reducible repeat (first | refine bN ?_ _ | refine bD ?_ | refine bA ?_ _)); refine blk_far ?_ NB357_372.out _; (with_reducible repeat (first | refine bN ?_ _ | refine bD ?_ | refine bA ?_ _)); refine blk_far ?_ NB357_372.out _; (with_reducible repeat (first | refine bN ?_ _ | refine bD ?_ | refine bA ?_ _)); exact BK357.out⟩, ⟨by (with_reducible repeat (first | refine bN ?_ _ | refine bD ?_ | refine bA ?_ _)); refine blk_far ?_ NB363_373.out _; (with_reducible repeat (first | refine bN ?_ _ | refine bD ?_ | refine bA ?_ _)); refine blk_far ?_ NB363_373.out _; (with_reducible repeat (first | refine bN ?_ _ | refine bD ?_ | refine bA ?_ _)); refine blk_far ?_ NB363_372.out _; (with_reducible repeat (first | refine bN ?_ _ | refine bD ?_ | refine bA ?_ _)); refine blk_far ?_ NB363_372.out _; (with_reducible repeat (first | refine bN ?_ _ | refine bD ?_ | refine bA ?_ _)); exact BK363.out⟩, ⟨by (with_reducible repeat (first | refine bN ?_ _ | refine bD ?_ | refine bA ?_ _)); refine blk_far ?_ NB372_373.out _; (with_reducible repeat (first | refine bN ?_ _ | refine bD ?_ | refine bA ?_ _)); refine blk_far ?_ NB372_373.out _; (with_reducible repeat (first | refine bN ?_ _ | refine bD ?_ | refine bA ?_ _)); refine blk_put (cs := #[.int .u64 t367, .int .u64 0]) ?_ 1 _ rfl; (with_reducible repeat (first | refine bN ?_ _ | refine bD ?_ | refine bA ?_ _)); refine blk_put (cs := #[.int .u64 0, .int .u64 0]) ?_ 0 _ rfl; (with_reducible repeat (first | refine bN ?_ _ | refine bD ?_ | refine bA ?_ _)); exact BK372.out⟩, ⟨by (with_reducible repeat (first | refine bN ?_ _ | refine bD ?_ | refine bA ?_ _)); refine blk_put (cs := #[.int .u64 t369, .int .u64 0]) ?_ 1 _ rfl; (with_reducible repeat (first | refine bN ?_ _ | refine bD ?_ | refine bA ?_ _)); refine blk_put (cs := #[.int .u64 0, .int .u64 0]) ?_ 0 _ rfl; (with_reducible repeat (first | refine bN ?_ _ | refine bD ?_ | refine bA ?_ _)); refine blk_far ?_ NB373_372.out _; (with_reducible repeat (first | refine bN ?_ _ | refine bD ?_ | refine bA ?_ _)); refine blk_far ?_ NB373_372.out _; (with_reducible repeat (first | refine bN ?_ _ | refine bD ?_ | refine bA ?_ _)); exact BK373.out⟩, ⟨by repeat (first | (with_reducible first | exact HB.out | apply pA | apply pN | apply p1 | refine pS ?_ GE357.out | refine pS ?_ GE363.out | refine pS ?_ GE372.out | refine pS ?_ GE373.out) | exact HB.out)⟩⟩
      · replace c172 := Bool.eq_false_iff.mpr c172
        subst c172
        have H1 : (vernierlaw03_PartBack.j0 k a1 t361 t364 t365 t366 true a0_0 a0_1 t359 t360) = some r := by rw [if_neg (show ¬ (false = true) by decide)] at H; exact H
        clear H
        have H := H1
        clear H1
        have H' := aM H
        clear H
        go_wp2
        go_meet
        case rel => exact ⟨_, (true), (by first | rfl | (simp; done) | (simp [*]; done)), H', ⟨by first | omega | exact Nat.le_refl _⟩, ⟨by (with_reducible repeat (first | refine bN ?_ _ | refine bD ?_ | refine bA ?_ _)); refine blk_far ?_ NB357_373.out _; (with_reducible repeat (first | refine bN ?_ _ | refine bD ?_ | refine bA ?_ _)); refine blk_far ?_ NB357_373.out _; (with_reducible repeat (first | refine bN ?_ _ | refine bD ?_ | refine bA ?_ _)); refine blk_far ?_ NB357_372.out _; (with_reducible repeat (first | refine bN ?_ _ | refine bD ?_ | refine bA ?_ _)); refine blk_far ?_ NB357_372.out _; (with_reducible repeat (first | refine bN ?_ _ | refine bD ?_ | refine bA ?_ _)); exact BK357.out⟩, ⟨by (with_reducible repeat (first | refine bN ?_ _ | refine bD ?_ | refine bA ?_ _)); refine blk_far ?_ NB363_373.out _; (with_reducible repeat (first | refine bN ?_ _ | refine bD ?_ | refine bA ?_ _)); refine blk_far ?_ NB363_373.out _; (with_reducible repeat (first | refine bN ?_ _ | refine bD ?_ | refine bA ?_ _)); refine blk_far ?_ NB363_372.out _; (with_reducible repeat (first | refine bN ?_ _ | refine bD ?_ | refine bA ?_ _)); refine blk_far ?_ NB363_372.out _; (with_reducible repeat (first | refine bN ?_ _ | refine bD ?_ | refine bA ?_ _)); exact BK363.out⟩, ⟨by (with_reducible repeat (first | refine bN ?_ _ | refine bD ?_ | refine bA ?_ _)); refine blk_far ?_ NB372_373.out _; (with_reducible repeat (first | refine bN ?_ _ | refine bD ?_ | refine bA ?_ _)); refine blk_far ?_ NB372_373.out _; (with_reducible repeat (first | refine bN ?_ _ | refine bD ?_ | refine bA ?_ _)); refine blk_put (cs := #[.int .u64 t367, .int .u64 0]) ?_ 1 _ rfl; (with_reducible repeat (first | refine bN ?_ _ | refine bD ?_ | refine bA ?_ _)); refine blk_put (cs := #[.int .u64 0, .int .u64 0]) ?_ 0 _ rfl; (with_reducible repeat (first | refine bN ?_ _ | refine bD ?_ | refine bA ?_ _)); exact BK372.out⟩, ⟨by (with_reducible repeat (first | refine bN ?_ _ | refine bD ?_ | refine bA ?_ _)); refine blk_put (cs := #[.int .u64 t369, .int .u64 0]) ?_ 1 _ rfl; (with_reducible repeat (first | refine bN ?_ _ | refine bD ?_ | refine bA ?_ _)); refine blk_put (cs := #[.int .u64 0, .int .u64 0]) ?_ 0 _ rfl; (with_reducible repeat (first | refine bN ?_ _ | refine bD ?_ | refine bA ?_ _)); refine blk_far ?_ NB373_372.out _; (with_reducible repeat (first | refine bN ?_ _ | refine bD ?_ | refine bA ?_ _)); refine blk_far ?_ NB373_372.out _; (with_reducible repeat (first | refine bN ?_ _ | refine bD ?_ | refine bA ?_ _)); exact BK373.out⟩, ⟨by repeat (first | (with_reducible first | exact HB.out | apply pA | apply pN | apply p1 | refine pS ?_ GE357.out | refine pS ?_ GE363.out | refine pS ?_ GE372.out | refine pS ?_ GE373.out) | exact HB.out)⟩⟩
    case rest =>
      clear HC151
      try clear c1
      try clear c2
      try clear p2
      try clear c3
      try clear q3
      try clear c4
      try clear c5
      try clear c6
      try clear c7
      try clear c7b0
      try clear c7b1
      try clear c8
      try clear c9
      try clear c10
      try clear c11
      try clear c12
      try clear c13
      try clear c14
      try clear c15
      try clear c16
      try clear c17
      try clear c18
      try clear c19
      try clear c22
      try clear c23
      try clear c24
      try clear c26
      try clear c27
      try clear c29
      try clear c29b0
      try clear c29b1
      try clear c35
      try clear q37
      try clear c43
      try clear c44
      try clear c45
      try clear c47
      try clear c48
      try clear c50
      try clear c50b0
      try clear c50b1
      try clear c56
      try clear c64
      try clear c65
      try clear c66
      try clear c68
      try clear c69
      try clear c76
      try clear c84
      try clear c85
      try clear c86
      try clear c88
      try clear c89
      try clear c96
      try clear c104
      try clear c105
      try clear c106
      try clear c108
      try clear c109
      try clear c116
      try clear c124
      try clear c125
      try clear c126
      try clear c128
      try clear c129
      try clear c136
      try clear c144
      try clear c145
      try clear c146
      try clear c148
      try clear c149
      try clear c157
      try clear c165
      try clear c166
      try clear c167
      try clear c169
      try clear c170
      try clear c172
      try clear c173
      try clear c173b0
      try clear c174
      try clear c175
      try clear c176
      try clear c178
      try clear c179
      try clear c181
      try clear c181b0
      try clear c182
      try clear c183
      try clear c184
      try clear c186
      try clear c187
      try clear c189
      try clear c191
      try clear c192
      try clear c193
      try clear c195
      try clear c196
      try clear c198
      try clear hcz100_0
      try clear hcz100_1
      try clear hcz107_0
      try clear hcz107_1
      try clear hcz110_0
      try clear hcz110_1
      try clear hcz113_0
      try clear hcz113_1
      try clear hcz117_0
      try clear hcz117_1
      try clear hcz118_0
      try clear hcz118_1
      try clear hcz11_0
      try clear hcz11_1
      try clear hcz120_0
      try clear hcz120_1
      try clear hcz127_0
      try clear hcz127_1
      try clear hcz130_0
      try clear hcz130_1
      try clear hcz133_0
      try clear hcz133_1
      try clear hcz137_0
      try clear hcz137_1
      try clear hcz138_0
      try clear hcz138_1
      try clear hcz140_0
      try clear hcz140_1
      try clear hcz147_0
      try clear hcz147_1
      try clear hcz150_0
      try clear hcz150_1
      try clear hcz154_0
      try clear hcz154_1
      try clear hcz158_0
      try clear hcz158_1
      try clear hcz159_0
      try clear hcz159_1
      try clear hcz15_0
      try clear hcz15_1
      try clear hcz161_0
      try clear hcz161_1
      try clear hcz168_0
      try clear hcz168_1
      try clear hcz16_0
      try clear hcz16_1
      try clear hcz171_0
      try clear hcz171_1
      try clear hcz177_0
      try clear hcz177_1
      try clear hcz180_0
      try clear hcz180_1
      try clear hcz185_0
      try clear hcz185_1
      try clear hcz188_0
      try clear hcz188_1
      try clear hcz18_0
      try clear hcz18_1
      try clear hcz190_0
      try clear hcz190_1
      try clear hcz194_0
      try clear hcz194_1
      try clear hcz197_0
      try clear hcz197_1
      try clear hcz199_0
      try clear hcz199_1
      try clear hcz25_0
      try clear hcz25_1
      try clear hcz28_0
      try clear hcz28_1
      try clear hcz32_0
      try clear hcz32_1
      try clear hcz36_0
      try clear hcz36_1
      try clear hcz37_0
      try clear hcz37_1
      try clear hcz39_0
      try clear hcz39_1
      try clear hcz46_0
      try clear hcz46_1
      try clear hcz49_0
      try clear hcz49_1
      try clear hcz53_0
      try clear hcz53_1
      try clear hcz57_0
      try clear hcz57_1
      try clear hcz58_0
      try clear hcz58_1
      try clear hcz60_0
      try clear hcz60_1
      try clear hcz67_0
      try clear hcz67_1
      try clear hcz70_0
      try clear hcz70_1
      try clear hcz73_0
      try clear hcz73_1
      try clear hcz77_0
      try clear hcz77_1
      try clear hcz78_0
      try clear hcz78_1
      try clear hcz80_0
      try clear hcz80_1
      try clear hcz87_0
      try clear hcz87_1
      try clear hcz90_0
      try clear hcz90_1
      try clear hcz93_0
      try clear hcz93_1
      try clear hcz97_0
      try clear hcz97_1
      try clear hcz98_0
      try clear hcz98_1
      try clear hfz100_0
      try clear hfz100_1
      try clear hfz107_0
      try clear hfz107_1
      try clear hfz110_0
      try clear hfz110_1
      try clear hfz113_0
      try clear hfz113_1
      try clear hfz117_0
      try clear hfz117_1
      try clear hfz118_0
      try clear hfz118_1
      try clear hfz11_0
      try clear hfz11_1
      try clear hfz120_0
      try clear hfz120_1
      try clear hfz127_0
      try clear hfz127_1
      try clear hfz130_0
      try clear hfz130_1
      try clear hfz133_0
      try clear hfz133_1
      try clear hfz137_0
      try clear hfz137_1
      try clear hfz138_0
      try clear hfz138_1
      try clear hfz140_0
      try clear hfz140_1
      try clear hfz147_0
      try clear hfz147_1
      try clear hfz150_0
      try clear hfz150_1
      try clear hfz154_0
      try clear hfz154_1
      try clear hfz158_0
      try clear hfz158_1
      try clear hfz159_0
      try clear hfz159_1
      try clear hfz15_0
      try clear hfz15_1
      try clear hfz161_0
      try clear hfz161_1
      try clear hfz168_0
      try clear hfz168_1
      try clear hfz16_0
      try clear hfz16_1
      try clear hfz171_0
      try clear hfz171_1
      try clear hfz177_0
      try clear hfz177_1
      try clear hfz180_0
      try clear hfz180_1
      try clear hfz185_0
      try clear hfz185_1
      try clear hfz188_0
      try clear hfz188_1
      try clear hfz18_0
      try clear hfz18_1
      try clear hfz190_0
      try clear hfz190_1
      try clear hfz194_0
      try clear hfz194_1
      try clear hfz197_0
      try clear hfz197_1
      try clear hfz199_0
      try clear hfz199_1
      try clear hfz25_0
      try clear hfz25_1
      try clear hfz28_0
      try clear hfz28_1
      try clear hfz32_0
      try clear hfz32_1
      try clear hfz36_0
      try clear hfz36_1
      try clear hfz37_0
      try clear hfz37_1
      try clear hfz39_0
      try clear hfz39_1
      try clear hfz46_0
      try clear hfz46_1
      try clear hfz49_0
      try clear hfz49_1
      try clear hfz53_0
      try clear hfz53_1
      try clear hfz57_0
      try clear hfz57_1
      try clear hfz58_0
      try clear hfz58_1
      try clear hfz60_0
      try clear hfz60_1
      try clear hfz67_0
      try clear hfz67_1
      try clear hfz70_0
      try clear hfz70_1
      try clear hfz73_0
      try clear hfz73_1
      try clear hfz77_0
      try clear hfz77_1
      try clear hfz78_0
      try clear hfz78_1
      try clear hfz80_0
      try clear hfz80_1
      try clear hfz87_0
      try clear hfz87_1
      try clear hfz90_0
      try clear hfz90_1
      try clear hfz93_0
      try clear hfz93_1
      try clear hfz97_0
      try clear hfz97_1
      try clear hfz98_0
      try clear hfz98_1
      try clear q374
      try clear q375
      try clear q376
      try clear q377
      try clear q378
      obtain ⟨kq, x90_150, rfl, HA, HJ150, BK357, BK363, BK372, BK373, HB⟩ := hcut
      cases kq with
      | zero => exact absurd HA.out (by simp [vernierlaw03_PartBack.j0])
      | succ kj150 =>
        have H := HA.out
        clear HA
        simp only [vernierlaw03_PartBack.j0] at H
        by_cases c200 : x90_150 = true
        · subst c200
          have H1 : (some false) = some r := by rw [if_pos rfl] at H; exact H
          clear H
          have H := H1
          clear H1
          obtain rfl := Option.some.inj H
          go_wp2
          go_ret
          exact ⟨by first | rfl | (simp [errW_none, errW_some] <;> rfl) | (simp [*, errW_none, errW_some] <;> rfl), by repeat (first | (with_reducible first | exact HB.out | apply pA | apply pN | apply p1 | refine pS ?_ GE357.out | refine pS ?_ GE363.out | refine pS ?_ GE372.out | refine pS ?_ GE373.out) | exact HB.out)⟩
        · replace c200 := Bool.eq_false_iff.mpr c200
          subst c200
          have H1 : (if t366.isNone = true then (if (!(t359 == 0) || (!(t360 == t364))) = true then (vernierlaw03_PartBack.j1 kj150 a1 t361 true a0_0 a0_1 t359 t360) else (if t365 = t361 then (vernierlaw03_PartBack.j1 kj150 a1 t361 false a0_0 a0_1 t359 t360) else (vernierlaw03_PartBack.j1 kj150 a1 t361 true a0_0 a0_1 t359 t360))) else (if (t366.getD 0) = 5 then (vernierlaw03_PartBack.j1 kj150 a1 t361 (t359 == 0) a0_0 a0_1 t359 t360) else (vernierlaw03_PartBack.j1 kj150 a1 t361 true a0_0 a0_1 t359 t360))) = some r := by rw [if_neg (show ¬ (false = true) by decide)] at H; exact H
          clear H
          have H := H1
          clear H1
          have HC201 := aM H
          clear H
          go_upto_region 9 with (fail)
          go_cut [117] (fun v117 wc => ∃ (kq : Nat) (x117_200 : Bool), v117 = .bool x117_200 ∧ Aside0 (vernierlaw03_PartBack.j1 kq a1 t361 x117_200 a0_0 a0_1 t359 t360 = some r) ∧ Aside0 (kq ≤ kj150) ∧ Aside0 (wc.heap[gb357]? = some (.cells #[.int .u64 a0_0, .int .u64 a0_1] 24 (0, 0))) ∧ Aside0 (wc.heap[gb363]? = some (.cells #[.int .u64 t359, .int .u64 t360] 24 (0, 0))) ∧ Aside0 (wc.heap[gb372]? = some (.cells #[.int .u64 t367, .int .u64 t368] 24 (0, 0))) ∧ Aside0 (wc.heap[gb373]? = some (.cells #[.int .u64 t369, .int .u64 t370] 24 (0, 0))) ∧ Aside0 (Below w.heap.size w wc))
          case first =>
            have H := HC201.out
            clear HC201
            rcases t366 with _ | q379
            · have H1 : (if (!(t359 == 0) || (!(t360 == t364))) = true then (vernierlaw03_PartBack.j1 kj150 a1 t361 true a0_0 a0_1 t359 t360) else (if t365 = t361 then (vernierlaw03_PartBack.j1 kj150 a1 t361 false a0_0 a0_1 t359 t360) else (vernierlaw03_PartBack.j1 kj150 a1 t361 true a0_0 a0_1 t359 t360))) = some r := by rw [if_pos (show (none : Option Int).isNone = true by rfl)] at H; exact H
              clear H
              have H := H1
              clear H1
              try simp only [errW_none, errW_some]
              by_cases c202 : (!(t359 == 0) || (!(t360 == t364))) = true
              · rw [if_pos c202] at H
                have c202b0 : (!(t359 == 0) || (!(t360 == t364))) = true := c202
                clear c202
                (first | rw [c202b0] | (simp only [i64_w, i32_w]; rw [c202b0]) | skip)
                have H' := aM H
                clear H
                have hnb203 := NB363_357.out
                have hnc203 := NB357_363.out
                have hnb204 := NB363_372.out
                have hnc204 := NB372_363.out
                have hnb205 := NB363_373.out
                have hnc205 := NB373_363.out
                have hcz206_0 := blk_cellL BK363.out 0 _ rfl
                have hcz206_1 := blk_cellL BK363.out 1 _ rfl
                have hfz206_0 := bF BK363.out 0
                have hfz206_1 := bF BK363.out 1
                go_wp2
                go_meet
                case rel => exact ⟨_, (true), (by first | rfl | (simp; done) | (simp [*]; done)), H', ⟨by have := HJ150.out; first | omega | exact Nat.le_refl _⟩, ⟨by (with_reducible repeat (first | refine bN ?_ _ | refine bD ?_ | refine bA ?_ _)); exact BK357.out⟩, ⟨by (with_reducible repeat (first | refine bN ?_ _ | refine bD ?_ | refine bA ?_ _)); exact BK363.out⟩, ⟨by (with_reducible repeat (first | refine bN ?_ _ | refine bD ?_ | refine bA ?_ _)); exact BK372.out⟩, ⟨by (with_reducible repeat (first | refine bN ?_ _ | refine bD ?_ | refine bA ?_ _)); exact BK373.out⟩, ⟨by repeat (first | (with_reducible first | exact HB.out | apply pA | apply pN | apply p1 | refine pS ?_ GE357.out | refine pS ?_ GE363.out | refine pS ?_ GE372.out | refine pS ?_ GE373.out) | exact HB.out)⟩⟩
              · rw [if_neg c202] at H
                have c202b0 : (!(t359 == 0) || (!(t360 == t364))) = false := by simpa using c202
                clear c202
                (first | rw [c202b0] | (simp only [i64_w, i32_w]; rw [c202b0]) | skip)
                by_cases c207 : t365 = t361
                · rw [if_pos c207] at H
                  have c207b0 : (t365 == t361) = true := beq_iff_eq.mpr c207
                  have c207b1 : (t365 != t361) = false := bne_eq_false_iff_eq.mpr c207
                  clear c207
                  have H' := aM H
                  clear H
                  have hnb208 := NB363_357.out
                  have hnc208 := NB357_363.out
                  have hnb209 := NB363_372.out
                  have hnc209 := NB372_363.out
                  have hnb210 := NB363_373.out
                  have hnc210 := NB373_363.out
                  have hcz211_0 := blk_cellL BK363.out 0 _ rfl
                  have hcz211_1 := blk_cellL BK363.out 1 _ rfl
                  have hfz211_0 := bF BK363.out 0
                  have hfz211_1 := bF BK363.out 1
                  go_wp2
                  go_meet
                  case rel => exact ⟨_, (false), (by first | rfl | (simp; done) | (simp [*]; done)), H', ⟨by have := HJ150.out; first | omega | exact Nat.le_refl _⟩, ⟨by (with_reducible repeat (first | refine bN ?_ _ | refine bD ?_ | refine bA ?_ _)); exact BK357.out⟩, ⟨by (with_reducible repeat (first | refine bN ?_ _ | refine bD ?_ | refine bA ?_ _)); exact BK363.out⟩, ⟨by (with_reducible repeat (first | refine bN ?_ _ | refine bD ?_ | refine bA ?_ _)); exact BK372.out⟩, ⟨by (with_reducible repeat (first | refine bN ?_ _ | refine bD ?_ | refine bA ?_ _)); exact BK373.out⟩, ⟨by repeat (first | (with_reducible first | exact HB.out | apply pA | apply pN | apply p1 | refine pS ?_ GE357.out | refine pS ?_ GE363.out | refine pS ?_ GE372.out | refine pS ?_ GE373.out) | exact HB.out)⟩⟩
                · rw [if_neg c207] at H
                  have c207b0 : (t365 == t361) = false := beq_eq_false_iff_ne.mpr c207
                  have c207b1 : (t365 != t361) = true := bne_iff_ne.mpr c207
                  have H' := aM H
                  clear H
                  have hnb212 := NB363_357.out
                  have hnc212 := NB357_363.out
                  have hnb213 := NB363_372.out
                  have hnc213 := NB372_363.out
                  have hnb214 := NB363_373.out
                  have hnc214 := NB373_363.out
                  have hcz215_0 := blk_cellL BK363.out 0 _ rfl
                  have hcz215_1 := blk_cellL BK363.out 1 _ rfl
                  have hfz215_0 := bF BK363.out 0
                  have hfz215_1 := bF BK363.out 1
                  go_wp2
                  go_meet
                  case rel => exact ⟨_, (true), (by first | rfl | (simp; done) | (simp [*]; done)), H', ⟨by have := HJ150.out; first | omega | exact Nat.le_refl _⟩, ⟨by (with_reducible repeat (first | refine bN ?_ _ | refine bD ?_ | refine bA ?_ _)); exact BK357.out⟩, ⟨by (with_reducible repeat (first | refine bN ?_ _ | refine bD ?_ | refine bA ?_ _)); exact BK363.out⟩, ⟨by (with_reducible repeat (first | refine bN ?_ _ | refine bD ?_ | refine bA ?_ _)); exact BK372.out⟩, ⟨by (with_reducible repeat (first | refine bN ?_ _ | refine bD ?_ | refine bA ?_ _)); exact BK373.out⟩, ⟨by repeat (first | (with_reducible first | exact HB.out | apply pA | apply pN | apply p1 | refine pS ?_ GE357.out | refine pS ?_ GE363.out | refine pS ?_ GE372.out | refine pS ?_ GE373.out) | exact HB.out)⟩⟩
            · have H1 : (if q379 = 5 then (vernierlaw03_PartBack.j1 kj150 a1 t361 (t359 == 0) a0_0 a0_1 t359 t360) else (vernierlaw03_PartBack.j1 kj150 a1 t361 true a0_0 a0_1 t359 t360)) = some r := by rw [if_neg (show ¬ (some q379).isNone = true by simp)] at H; exact H
              clear H
              have H := H1
              clear H1
              try simp only [errW_none, errW_some]
              by_cases c216 : q379 = 5
              · rw [if_pos c216] at H
                have c216b0 : (q379 == 5) = true := beq_iff_eq.mpr c216
                have c216b1 : (q379 != 5) = false := bne_eq_false_iff_eq.mpr c216
                clear c216
                have H' := aM H
                clear H
                have hnb217 := NB363_357.out
                have hnc217 := NB357_363.out
                have hnb218 := NB363_372.out
                have hnc218 := NB372_363.out
                have hnb219 := NB363_373.out
                have hnc219 := NB373_363.out
                have hcz220_0 := blk_cellL BK363.out 0 _ rfl
                have hcz220_1 := blk_cellL BK363.out 1 _ rfl
                have hfz220_0 := bF BK363.out 0
                have hfz220_1 := bF BK363.out 1
                go_wp2
                go_meet
                case rel => exact ⟨_, ((t359 == 0)), (by first | rfl | (simp; done) | (simp [*]; done)), H', ⟨by have := HJ150.out; first | omega | exact Nat.le_refl _⟩, ⟨by (with_reducible repeat (first | refine bN ?_ _ | refine bD ?_ | refine bA ?_ _)); exact BK357.out⟩, ⟨by (with_reducible repeat (first | refine bN ?_ _ | refine bD ?_ | refine bA ?_ _)); exact BK363.out⟩, ⟨by (with_reducible repeat (first | refine bN ?_ _ | refine bD ?_ | refine bA ?_ _)); exact BK372.out⟩, ⟨by (with_reducible repeat (first | refine bN ?_ _ | refine bD ?_ | refine bA ?_ _)); exact BK373.out⟩, ⟨by repeat (first | (with_reducible first | exact HB.out | apply pA | apply pN | apply p1 | refine pS ?_ GE357.out | refine pS ?_ GE363.out | refine pS ?_ GE372.out | refine pS ?_ GE373.out) | exact HB.out)⟩⟩
              · rw [if_neg c216] at H
                have c216b0 : (q379 == 5) = false := beq_eq_false_iff_ne.mpr c216
                have c216b1 : (q379 != 5) = true := bne_iff_ne.mpr c216
                have H' := aM H
                clear H
                go_wp2
                go_meet
                case rel => exact ⟨_, (true), (by first | rfl | (simp; done) | (simp [*]; done)), H', ⟨by have := HJ150.out; first | omega | exact Nat.le_refl _⟩, ⟨by (with_reducible repeat (first | refine bN ?_ _ | refine bD ?_ | refine bA ?_ _)); exact BK357.out⟩, ⟨by (with_reducible repeat (first | refine bN ?_ _ | refine bD ?_ | refine bA ?_ _)); exact BK363.out⟩, ⟨by (with_reducible repeat (first | refine bN ?_ _ | refine bD ?_ | refine bA ?_ _)); exact BK372.out⟩, ⟨by (with_reducible repeat (first | refine bN ?_ _ | refine bD ?_ | refine bA ?_ _)); exact BK373.out⟩, ⟨by repeat (first | (with_reducible first | exact HB.out | apply pA | apply pN | apply p1 | refine pS ?_ GE357.out | refine pS ?_ GE363.out | refine pS ?_ GE372.out | refine pS ?_ GE373.out) | exact HB.out)⟩⟩
          case rest =>
            clear HC201
            try clear c1
            try clear c2
            try clear p2
            try clear c3
            try clear q3
            try clear c4
            try clear c5
            try clear c6
            try clear c7
            try clear c7b0
            try clear c7b1
            try clear c8
            try clear c9
            try clear c10
            try clear c11
            try clear c12
            try clear c13
            try clear c14
            try clear c15
            try clear c16
            try clear c17
            try clear c18
            try clear c19
            try clear c20
            try clear c21
            try clear c22
            try clear c23
            try clear c24
            try clear c26
            try clear c27
            try clear c29
            try clear c29b0
            try clear c29b1
            try clear c35
            try clear q37
            try clear c43
            try clear c44
            try clear c45
            try clear c47
            try clear c48
            try clear c50
            try clear c50b0
            try clear c50b1
            try clear c56
            try clear c64
            try clear c65
            try clear c66
            try clear c68
            try clear c69
            try clear c76
            try clear c84
            try clear c85
            try clear c86
            try clear c88
            try clear c89
            try clear c96
            try clear c104
            try clear c105
            try clear c106
            try clear c108
            try clear c109
            try clear c116
            try clear c124
            try clear c125
            try clear c126
            try clear c128
            try clear c129
            try clear c136
            try clear c144
            try clear c145
            try clear c146
            try clear c148
            try clear c149
            try clear c157
            try clear c165
            try clear c166
            try clear c167
            try clear c169
            try clear c170
            try clear c172
            try clear c173
            try clear c173b0
            try clear c174
            try clear c175
            try clear c176
            try clear c178
            try clear c179
            try clear c181
            try clear c181b0
            try clear c182
            try clear c183
            try clear c184
            try clear c186
            try clear c187
            try clear c189
            try clear c191
            try clear c192
            try clear c193
            try clear c195
            try clear c196
            try clear c198
            try clear c200
            try clear c202
            try clear c202b0
            try clear c203
            try clear c204
            try clear c205
            try clear c207
            try clear c207b0
            try clear c207b1
            try clear c208
            try clear c209
            try clear c210
            try clear c212
            try clear c213
            try clear c214
            try clear c216
            try clear c216b0
            try clear c216b1
            try clear c217
            try clear c218
            try clear c219
            try clear hcz100_0
            try clear hcz100_1
            try clear hcz107_0
            try clear hcz107_1
            try clear hcz110_0
            try clear hcz110_1
            try clear hcz113_0
            try clear hcz113_1
            try clear hcz117_0
            try clear hcz117_1
            try clear hcz118_0
            try clear hcz118_1
            try clear hcz11_0
            try clear hcz11_1
            try clear hcz120_0
            try clear hcz120_1
            try clear hcz127_0
            try clear hcz127_1
            try clear hcz130_0
            try clear hcz130_1
            try clear hcz133_0
            try clear hcz133_1
            try clear hcz137_0
            try clear hcz137_1
            try clear hcz138_0
            try clear hcz138_1
            try clear hcz140_0
            try clear hcz140_1
            try clear hcz147_0
            try clear hcz147_1
            try clear hcz150_0
            try clear hcz150_1
            try clear hcz154_0
            try clear hcz154_1
            try clear hcz158_0
            try clear hcz158_1
            try clear hcz159_0
            try clear hcz159_1
            try clear hcz15_0
            try clear hcz15_1
            try clear hcz161_0
            try clear hcz161_1
            try clear hcz168_0
            try clear hcz168_1
            try clear hcz16_0
            try clear hcz16_1
            try clear hcz171_0
            try clear hcz171_1
            try clear hcz177_0
            try clear hcz177_1
            try clear hcz180_0
            try clear hcz180_1
            try clear hcz185_0
            try clear hcz185_1
            try clear hcz188_0
            try clear hcz188_1
            try clear hcz18_0
            try clear hcz18_1
            try clear hcz190_0
            try clear hcz190_1
            try clear hcz194_0
            try clear hcz194_1
            try clear hcz197_0
            try clear hcz197_1
            try clear hcz199_0
            try clear hcz199_1
            try clear hcz206_0
            try clear hcz206_1
            try clear hcz211_0
            try clear hcz211_1
            try clear hcz215_0
            try clear hcz215_1
            try clear hcz220_0
            try clear hcz220_1
            try clear hcz25_0
            try clear hcz25_1
            try clear hcz28_0
            try clear hcz28_1
            try clear hcz32_0
            try clear hcz32_1
            try clear hcz36_0
            try clear hcz36_1
            try clear hcz37_0
            try clear hcz37_1
            try clear hcz39_0
            try clear hcz39_1
            try clear hcz46_0
            try clear hcz46_1
            try clear hcz49_0
            try clear hcz49_1
            try clear hcz53_0
            try clear hcz53_1
            try clear hcz57_0
            try clear hcz57_1
            try clear hcz58_0
            try clear hcz58_1
            try clear hcz60_0
            try clear hcz60_1
            try clear hcz67_0
            try clear hcz67_1
            try clear hcz70_0
            try clear hcz70_1
            try clear hcz73_0
            try clear hcz73_1
            try clear hcz77_0
            try clear hcz77_1
            try clear hcz78_0
            try clear hcz78_1
            try clear hcz80_0
            try clear hcz80_1
            try clear hcz87_0
            try clear hcz87_1
            try clear hcz90_0
            try clear hcz90_1
            try clear hcz93_0
            try clear hcz93_1
            try clear hcz97_0
            try clear hcz97_1
            try clear hcz98_0
            try clear hcz98_1
            try clear hfz100_0
            try clear hfz100_1
            try clear hfz107_0
            try clear hfz107_1
            try clear hfz110_0
            try clear hfz110_1
            try clear hfz113_0
            try clear hfz113_1
            try clear hfz117_0
            try clear hfz117_1
            try clear hfz118_0
            try clear hfz118_1
            try clear hfz11_0
            try clear hfz11_1
            try clear hfz120_0
            try clear hfz120_1
            try clear hfz127_0
            try clear hfz127_1
            try clear hfz130_0
            try clear hfz130_1
            try clear hfz133_0
            try clear hfz133_1
            try clear hfz137_0
            try clear hfz137_1
            try clear hfz138_0
            try clear hfz138_1
            try clear hfz140_0
            try clear hfz140_1
            try clear hfz147_0
            try clear hfz147_1
            try clear hfz150_0
            try clear hfz150_1
            try clear hfz154_0
            try clear hfz154_1
            try clear hfz158_0
            try clear hfz158_1
            try clear hfz159_0
            try clear hfz159_1
            try clear hfz15_0
            try clear hfz15_1
            try clear hfz161_0
            try clear hfz161_1
            try clear hfz168_0
            try clear hfz168_1
            try clear hfz16_0
            try clear hfz16_1
            try clear hfz171_0
            try clear hfz171_1
            try clear hfz177_0
            try clear hfz177_1
            try clear hfz180_0
            try clear hfz180_1
            try clear hfz185_0
            try clear hfz185_1
            try clear hfz188_0
            try clear hfz188_1
            try clear hfz18_0
            try clear hfz18_1
            try clear hfz190_0
            try clear hfz190_1
            try clear hfz194_0
            try clear hfz194_1
            try clear hfz197_0
            try clear hfz197_1
            try clear hfz199_0
            try clear hfz199_1
            try clear hfz206_0
            try clear hfz206_1
            try clear hfz211_0
            try clear hfz211_1
            try clear hfz215_0
            try clear hfz215_1
            try clear hfz220_0
            try clear hfz220_1
            try clear hfz25_0
            try clear hfz25_1
            try clear hfz28_0
            try clear hfz28_1
            try clear hfz32_0
            try clear hfz32_1
            try clear hfz36_0
            try clear hfz36_1
            try clear hfz37_0
            try clear hfz37_1
            try clear hfz39_0
            try clear hfz39_1
            try clear hfz46_0
            try clear hfz46_1
            try clear hfz49_0
            try clear hfz49_1
            try clear hfz53_0
            try clear hfz53_1
            try clear hfz57_0
            try clear hfz57_1
            try clear hfz58_0
            try clear hfz58_1
            try clear hfz60_0
            try clear hfz60_1
            try clear hfz67_0
            try clear hfz67_1
            try clear hfz70_0
            try clear hfz70_1
            try clear hfz73_0
            try clear hfz73_1
            try clear hfz77_0
            try clear hfz77_1
            try clear hfz78_0
            try clear hfz78_1
            try clear hfz80_0
            try clear hfz80_1
            try clear hfz87_0
            try clear hfz87_1
            try clear hfz90_0
            try clear hfz90_1
            try clear hfz93_0
            try clear hfz93_1
            try clear hfz97_0
            try clear hfz97_1
            try clear hfz98_0
            try clear hfz98_1
            try clear p2
            try clear q3
            try clear q37
            try clear q374
            try clear q375
            try clear q376
            try clear q377
            try clear q378
            try clear q379
            obtain ⟨kq, x117_200, rfl, HA, HJ200, BK357, BK363, BK372, BK373, HB⟩ := hcut
            cases kq with
            | zero => exact absurd HA.out (by simp [vernierlaw03_PartBack.j1])
            | succ kj200 =>
              have H := HA.out
              clear HA
              simp only [vernierlaw03_PartBack.j1] at H
              by_cases c221 : x117_200 = true
              · subst c221
                have H1 : (some false) = some r := by rw [if_pos rfl] at H; exact H
                clear H
                have H := H1
                clear H1
                obtain rfl := Option.some.inj H
                go_wp2
                go_ret
                exact ⟨by first | rfl | (simp [errW_none, errW_some] <;> rfl) | (simp [*, errW_none, errW_some] <;> rfl), by repeat (first | (with_reducible first | exact HB.out | apply pA | apply pN | apply p1 | refine pS ?_ GE357.out | refine pS ?_ GE363.out | refine pS ?_ GE372.out | refine pS ?_ GE373.out) | exact HB.out)⟩
              · replace c221 := Bool.eq_false_iff.mpr c221
                subst c221
                have H1 : ((twin_Mul.f t359 a1).bind fun bt380 => ((twin_Mul.f t360 a1).bind fun bt383 => ((twin_Shl.f kj200 bt380.1 bt380.2 64).bind fun bt386 => ((twin_Add.f bt386.1 bt386.2.1 bt383.1 bt383.2).bind fun bt391 => ((twin_Add.f bt391.1 bt391.2.1 0 t361).bind fun bt395 => (if bt386.2.2.1 = true then (some false) else (if bt386.2.2.2.isNone = true then (if bt391.2.2 = true then (some false) else (if bt395.2.2 = true then (some false) else (some (bt395.1 == a0_0 && (bt395.2.1 == a0_1))))) else (some false)))))))) = some r := by rw [if_neg (show ¬ (false = true) by decide)] at H; exact H
                clear H
                have H := H1
                clear H1
                replace H := Option.bind_eq_some_iff.mp H
                obtain ⟨⟨t380, t381⟩, A2220, H⟩ := H
                replace H : ((twin_Mul.f t360 a1).bind fun bt383 => ((twin_Shl.f kj200 t380 t381 64).bind fun bt386 => ((twin_Add.f bt386.1 bt386.2.1 bt383.1 bt383.2).bind fun bt391 => ((twin_Add.f bt391.1 bt391.2.1 0 t361).bind fun bt395 => (if bt386.2.2.1 = true then (some false) else (if bt386.2.2.2.isNone = true then (if bt391.2.2 = true then (some false) else (if bt395.2.2 = true then (some false) else (some (bt395.1 == a0_0 && (bt395.2.1 == a0_1))))) else (some false))))))) = some r := H
                have A222 := aM A2220
                clear A2220
                replace H := Option.bind_eq_some_iff.mp H
                obtain ⟨⟨t383, t384⟩, A2230, H⟩ := H
                replace H : ((twin_Shl.f kj200 t380 t381 64).bind fun bt386 => ((twin_Add.f bt386.1 bt386.2.1 t383 t384).bind fun bt391 => ((twin_Add.f bt391.1 bt391.2.1 0 t361).bind fun bt395 => (if bt386.2.2.1 = true then (some false) else (if bt386.2.2.2.isNone = true then (if bt391.2.2 = true then (some false) else (if bt395.2.2 = true then (some false) else (some (bt395.1 == a0_0 && (bt395.2.1 == a0_1))))) else (some false)))))) = some r := H
                have A223 := aM A2230
                clear A2230
                replace H := Option.bind_eq_some_iff.mp H
                obtain ⟨⟨t386, t387, t388, t389⟩, A2240, H⟩ := H
                replace H : ((twin_Add.f t386 t387 t383 t384).bind fun bt391 => ((twin_Add.f bt391.1 bt391.2.1 0 t361).bind fun bt395 => (if t388 = true then (some false) else (if t389.isNone = true then (if bt391.2.2 = true then (some false) else (if bt395.2.2 = true then (some false) else (some (bt395.1 == a0_0 && (bt395.2.1 == a0_1))))) else (some false))))) = some r := H
                have A224 := aM A2240
                clear A2240
                replace H := Option.bind_eq_some_iff.mp H
                obtain ⟨⟨t391, t392, t393⟩, A2250, H⟩ := H
                replace H : ((twin_Add.f t391 t392 0 t361).bind fun bt395 => (if t388 = true then (some false) else (if t389.isNone = true then (if t393 = true then (some false) else (if bt395.2.2 = true then (some false) else (some (bt395.1 == a0_0 && (bt395.2.1 == a0_1))))) else (some false)))) = some r := H
                have A225 := aM A2250
                clear A2250
                replace H := Option.bind_eq_some_iff.mp H
                obtain ⟨⟨t395, t396, t397⟩, A2260, H⟩ := H
                replace H : (if t388 = true then (some false) else (if t389.isNone = true then (if t393 = true then (some false) else (if t397 = true then (some false) else (some (t395 == a0_0 && (t396 == a0_1))))) else (some false))) = some r := H
                have A226 := aM A2260
                clear A2260
                by_cases c227 : t388 = true
                · subst c227
                  have H1 : (some false) = some r := by rw [if_pos rfl] at H; exact H
                  clear H
                  have H := H1
                  clear H1
                  obtain rfl := Option.some.inj H
                  have hnb228 := NB363_357.out
                  have hnc228 := NB357_363.out
                  have hnb229 := NB363_372.out
                  have hnc229 := NB372_363.out
                  have hnb230 := NB363_373.out
                  have hnc230 := NB373_363.out
                  have hcz231_0 := blk_cellL BK363.out 0 _ rfl
                  have hcz231_1 := blk_cellL BK363.out 1 _ rfl
                  have hfz231_0 := bF BK363.out 0
                  have hfz231_1 := bF BK363.out 1
                  go_wp2_with (first | ((with_reducible refine gC (f := 11) rfl ?_); refine gY (some 121) Try.func11 #[.int .u64 t359, .int .u64 a1] ?_; (with_reducible refine (twin_Mul.calls t359 a1 t380 t381 _ A222.out).mono ?_); rintro e w232 ⟨rfl, hb⟩; refine ⟨_, rfl, ?_⟩; have n0_ := aM (bB3 BK357.out hb); have n1_ := aM (bB3 BK363.out hb); have n2_ := aM (bB3 BK372.out hb); have n3_ := aM (bB3 BK373.out hb); have n4_ := aM (bS3 HB.out hb); clear BK357; clear BK363; clear BK372; clear BK373; clear HB; have BK357 := n0_; have BK363 := n1_; have BK372 := n2_; have BK373 := n3_; have HB := n4_; clear n0_ n1_ n2_ n3_ n4_; (try clear hb)) | ((with_reducible refine gD (N := 15) rfl ?_); refine bE3 15 #[.int .u64 0, .int .u64 0] 24 ?hr ?_; (case hr => first | (go_simp; done) | (go_simp; rfl)); intro gb382 hg w233 hbox hb; have n0_ := aM (bB3 BK357.out hb); have n1_ := aM (bB3 BK363.out hb); have n2_ := aM (bB3 BK372.out hb); have n3_ := aM (bB3 BK373.out hb); have n4_ := aM (bS3 HB.out hb); have n5_ := aM (hbox); have n6_ := aM ((bZ3 hg HB.out)); have n7_ := aM ((bZ3 hg HB.out)); have n8_ := aM ((bL3 hg BK357.out)); have n9_ := aM ((bG3 hg BK357.out)); have n10_ := aM ((bL3 hg BK363.out)); have n11_ := aM ((bG3 hg BK363.out)); have n12_ := aM ((bL3 hg BK372.out)); have n13_ := aM ((bG3 hg BK372.out)); have n14_ := aM ((bL3 hg BK373.out)); have n15_ := aM ((bG3 hg BK373.out)); clear BK357; clear BK363; clear BK372; clear BK373; clear HB; have BK357 := n0_; have BK363 := n1_; have BK372 := n2_; have BK373 := n3_; have HB := n4_; have BK382 := n5_; have GW382 := n6_; have GE382 := n7_; have NB357_382 := n8_; have NB382_357 := n9_; have NB363_382 := n10_; have NB382_363 := n11_; have NB372_382 := n12_; have NB382_372 := n13_; have NB373_382 := n14_; have NB382_373 := n15_; clear n0_ n1_ n2_ n3_ n4_ n5_ n6_ n7_ n8_ n9_ n10_ n11_ n12_ n13_ n14_ n15_; clear hb hbox hg; have hnb234 := NB382_357.out; have hnc234 := NB357_382.out; have hnb235 := NB382_363.out; have hnc235 := NB363_382.out; have hnb236 := NB382_372.out; have hnc236 := NB372_382.out; have hnb237 := NB382_373.out; have hnc237 := NB373_382.out; have hcz238_0 := blk_cellL BK382.out 0 _ rfl; have hcz238_1 := blk_cellL BK382.out 1 _ rfl; have hfz238_0 := bF BK382.out 0; have hfz238_1 := bF BK382.out 1; have hcz239_0 := blk_cellL BK363.out 0 _ rfl; have hcz239_1 := blk_cellL BK363.out 1 _ rfl; have hfz239_0 := bF BK363.out 0; have hfz239_1 := bF BK363.out 1) | ((with_reducible refine gC (f := 11) rfl ?_); refine gY (some 125) Try.func11 #[.int .u64 t360, .int .u64 a1] ?_; (with_reducible refine (twin_Mul.calls t360 a1 t383 t384 _ A223.out).mono ?_); rintro e w240 ⟨rfl, hb⟩; refine ⟨_, rfl, ?_⟩; have n0_ := aM (bB (g := gb357) (o := .cells #[.int .u64 a0_0, .int .u64 a0_1] 24 (0, 0)) (by (with_reducible repeat (first | refine bN ?_ _ | refine bD ?_ | refine bA ?_ _)); refine blk_far ?_ NB357_382.out _; (with_reducible repeat (first | refine bN ?_ _ | refine bD ?_ | refine bA ?_ _)); refine blk_far ?_ NB357_382.out _; (with_reducible repeat (first | refine bN ?_ _ | refine bD ?_ | refine bA ?_ _)); exact BK357.out) hb); have n1_ := aM (bB (g := gb363) (o := .cells #[.int .u64 t359, .int .u64 t360] 24 (0, 0)) (by (with_reducible repeat (first | refine bN ?_ _ | refine bD ?_ | refine bA ?_ _)); refine blk_far ?_ NB363_382.out _; (with_reducible repeat (first | refine bN ?_ _ | refine bD ?_ | refine bA ?_ _)); refine blk_far ?_ NB363_382.out _; (with_reducible repeat (first | refine bN ?_ _ | refine bD ?_ | refine bA ?_ _)); exact BK363.out) hb); have n2_ := aM (bB (g := gb372) (o := .cells #[.int .u64 t367, .int .u64 t368] 24 (0, 0)) (by (with_reducible repeat (first | refine bN ?_ _ | refine bD ?_ | refine bA ?_ _)); refine blk_far ?_ NB372_382.out _; (with_reducible repeat (first | refine bN ?_ _ | refine bD ?_ | refine bA ?_ _)); refine blk_far ?_ NB372_382.out _; (with_reducible repeat (first | refine bN ?_ _ | refine bD ?_ | refine bA ?_ _)); exact BK372.out) hb); have n3_ := aM (bB (g := gb373) (o := .cells #[.int .u64 t369, .int .u64 t370] 24 (0, 0)) (by (with_reducible repeat (first | refine bN ?_ _ | refine bD ?_ | refine bA ?_ _)); refine blk_far ?_ NB373_382.out _; (with_reducible repeat (first | refine bN ?_ _ | refine bD ?_ | refine bA ?_ _)); refine blk_far ?_ NB373_382.out _; (with_reducible repeat (first | refine bN ?_ _ | refine bD ?_ | refine bA ?_ _)); exact BK373.out) hb); have n4_ := aM (bB (g := gb382) (o := .cells #[.int .u64 t380, .int .u64 t381] 24 (0, 0)) (by (with_reducible repeat (first | refine bN ?_ _ | refine bD ?_ | refine bA ?_ _)); refine blk_put (cs := #[.int .u64 t380, .int .u64 0]) ?_ 1 _ rfl; (with_reducible repeat (first | refine bN ?_ _ | refine bD ?_ | refine bA ?_ _)); refine blk_put (cs := #[.int .u64 0, .int .u64 0]) ?_ 0 _ rfl; (with_reducible repeat (first | refine bN ?_ _ | refine bD ?_ | refine bA ?_ _)); exact BK382.out) hb); have n5_ := aM (bS3 HB.out hb); clear BK357; clear BK363; clear BK372; clear BK373; clear BK382; clear HB; have BK357 := n0_; have BK363 := n1_; have BK372 := n2_; have BK373 := n3_; have BK382 := n4_; have HB := n5_; clear n0_ n1_ n2_ n3_ n4_ n5_; (try clear hb)) | ((with_reducible refine gD (N := 16) rfl ?_); refine bE3 16 #[.int .u64 0, .int .u64 0] 24 ?hr ?_; (case hr => first | (go_simp; done) | (go_simp; rfl)); intro gb385 hg w241 hbox hb; have n0_ := aM (bB3 BK357.out hb); have n1_ := aM (bB3 BK363.out hb); have n2_ := aM (bB3 BK372.out hb); have n3_ := aM (bB3 BK373.out hb); have n4_ := aM (bB3 BK382.out hb); have n5_ := aM (bS3 HB.out hb); have n6_ := aM (hbox); have n7_ := aM ((bZ3 hg HB.out)); have n8_ := aM ((bZ3 hg HB.out)); have n9_ := aM ((bL3 hg BK357.out)); have n10_ := aM ((bG3 hg BK357.out)); have n11_ := aM ((bL3 hg BK363.out)); have n12_ := aM ((bG3 hg BK363.out)); have n13_ := aM ((bL3 hg BK372.out)); have n14_ := aM ((bG3 hg BK372.out)); have n15_ := aM ((bL3 hg BK373.out)); have n16_ := aM ((bG3 hg BK373.out)); have n17_ := aM ((bL3 hg BK382.out)); have n18_ := aM ((bG3 hg BK382.out)); clear BK357; clear BK363; clear BK372; clear BK373; clear BK382; clear HB; have BK357 := n0_; have BK363 := n1_; have BK372 := n2_; have BK373 := n3_; have BK382 := n4_; have HB := n5_; have BK385 := n6_; have GW385 := n7_; have GE385 := n8_; have NB357_385 := n9_; have NB385_357 := n10_; have NB363_385 := n11_; have NB385_363 := n12_; have NB372_385 := n13_; have NB385_372 := n14_; have NB373_385 := n15_; have NB385_373 := n16_; have NB382_385 := n17_; have NB385_382 := n18_; clear n0_ n1_ n2_ n3_ n4_ n5_ n6_ n7_ n8_ n9_ n10_ n11_ n12_ n13_ n14_ n15_ n16_ n17_ n18_; clear hb hbox hg; have hnb242 := NB385_357.out; have hnc242 := NB357_385.out; have hnb243 := NB385_363.out; have hnc243 := NB363_385.out; have hnb244 := NB385_372.out; have hnc244 := NB372_385.out; have hnb245 := NB385_373.out; have hnc245 := NB373_385.out; have hnb246 := NB385_382.out; have hnc246 := NB382_385.out; have hcz247_0 := blk_cellL BK385.out 0 _ rfl; have hcz247_1 := blk_cellL BK385.out 1 _ rfl; have hfz247_0 := bF BK385.out 0; have hfz247_1 := bF BK385.out 1; have hcz248_0 := blk_cellL BK382.out 0 _ rfl; have hcz248_1 := blk_cellL BK382.out 1 _ rfl; have hfz248_0 := bF BK382.out 0; have hfz248_1 := bF BK382.out 1) | ((with_reducible refine gC (f := 12) rfl ?_); refine gY (some 128) Try.func12 #[.agg #[.int .u64 t380, .int .u64 t381], .int .i64 64] ?_; (with_reducible refine (twin_Shl.calls kj200 t380 t381 64 t386 t387 true t389 _ A224.out).mono ?_); rintro e w249 ⟨rfl, hb⟩; refine ⟨_, rfl, ?_⟩; have n0_ := aM (bB (g := gb357) (o := .cells #[.int .u64 a0_0, .int .u64 a0_1] 24 (0, 0)) (by (with_reducible repeat (first | refine bN ?_ _ | refine bD ?_ | refine bA ?_ _)); refine blk_far ?_ NB357_385.out _; (with_reducible repeat (first | refine bN ?_ _ | refine bD ?_ | refine bA ?_ _)); refine blk_far ?_ NB357_385.out _; (with_reducible repeat (first | refine bN ?_ _ | refine bD ?_ | refine bA ?_ _)); exact BK357.out) hb); have n1_ := aM (bB (g := gb363) (o := .cells #[.int .u64 t359, .int .u64 t360] 24 (0, 0)) (by (with_reducible repeat (first | refine bN ?_ _ | refine bD ?_ | refine bA ?_ _)); refine blk_far ?_ NB363_385.out _; (with_reducible repeat (first | refine bN ?_ _ | refine bD ?_ | refine bA ?_ _)); refine blk_far ?_ NB363_385.out _; (with_reducible repeat (first | refine bN ?_ _ | refine bD ?_ | refine bA ?_ _)); exact BK363.out) hb); have n2_ := aM (bB (g := gb372) (o := .cells #[.int .u64 t367, .int .u64 t368] 24 (0, 0)) (by (with_reducible repeat (first | refine bN ?_ _ | refine bD ?_ | refine bA ?_ _)); refine blk_far ?_ NB372_385.out _; (with_reducible repeat (first | refine bN ?_ _ | refine bD ?_ | refine bA ?_ _)); refine blk_far ?_ NB372_385.out _; (with_reducible repeat (first | refine bN ?_ _ | refine bD ?_ | refine bA ?_ _)); exact BK372.out) hb); have n3_ := aM (bB (g := gb373) (o := .cells #[.int .u64 t369, .int .u64 t370] 24 (0, 0)) (by (with_reducible repeat (first | refine bN ?_ _ | refine bD ?_ | refine bA ?_ _)); refine blk_far ?_ NB373_385.out _; (with_reducible repeat (first | refine bN ?_ _ | refine bD ?_ | refine bA ?_ _)); refine blk_far ?_ NB373_385.out _; (with_reducible repeat (first | refine bN ?_ _ | refine bD ?_ | refine bA ?_ _)); exact BK373.out) hb); have n4_ := aM (bB (g := gb382) (o := .cells #[.int .u64 t380, .int .u64 t381] 24 (0, 0)) (by (with_reducible repeat (first | refine bN ?_ _ | refine bD ?_ | refine bA ?_ _)); refine blk_far ?_ NB382_385.out _; (with_reducible repeat (first | refine bN ?_ _ | refine bD ?_ | refine bA ?_ _)); refine blk_far ?_ NB382_385.out _; (with_reducible repeat (first | refine bN ?_ _ | refine bD ?_ | refine bA ?_ _)); exact BK382.out) hb); have n5_ := aM (bB (g := gb385) (o := .cells #[.int .u64 t383, .int .u64 t384] 24 (0, 0)) (by (with_reducible repeat (first | refine bN ?_ _ | refine bD ?_ | refine bA ?_ _)); refine blk_put (cs := #[.int .u64 t383, .int .u64 0]) ?_ 1 _ rfl; (with_reducible repeat (first | refine bN ?_ _ | refine bD ?_ | refine bA ?_ _)); refine blk_put (cs := #[.int .u64 0, .int .u64 0]) ?_ 0 _ rfl; (with_reducible repeat (first | refine bN ?_ _ | refine bD ?_ | refine bA ?_ _)); exact BK385.out) hb); have n6_ := aM (bS3 HB.out hb); clear BK357; clear BK363; clear BK372; clear BK373; clear BK382; clear BK385; clear HB; have BK357 := n0_; have BK363 := n1_; have BK372 := n2_; have BK373 := n3_; have BK382 := n4_; have BK385 := n5_; have HB := n6_; clear n0_ n1_ n2_ n3_ n4_ n5_ n6_; (try clear hb); (try simp only [errW_none, errW_some])) | ((with_reducible refine gD (N := 17) rfl ?_); refine bE3 17 #[.int .u64 0, .int .u64 0] 24 ?hr ?_; (case hr => first | (go_simp; done) | (go_simp; rfl)); intro gb390 hg w250 hbox hb; have n0_ := aM (bB3 BK357.out hb); have n1_ := aM (bB3 BK363.out hb); have n2_ := aM (bB3 BK372.out hb); have n3_ := aM (bB3 BK373.out hb); have n4_ := aM (bB3 BK382.out hb); have n5_ := aM (bB3 BK385.out hb); have n6_ := aM (bS3 HB.out hb); have n7_ := aM (hbox); have n8_ := aM ((bZ3 hg HB.out)); have n9_ := aM ((bZ3 hg HB.out)); have n10_ := aM ((bL3 hg BK357.out)); have n11_ := aM ((bG3 hg BK357.out)); have n12_ := aM ((bL3 hg BK363.out)); have n13_ := aM ((bG3 hg BK363.out)); have n14_ := aM ((bL3 hg BK372.out)); have n15_ := aM ((bG3 hg BK372.out)); have n16_ := aM ((bL3 hg BK373.out)); have n17_ := aM ((bG3 hg BK373.out)); have n18_ := aM ((bL3 hg BK382.out)); have n19_ := aM ((bG3 hg BK382.out)); have n20_ := aM ((bL3 hg BK385.out)); have n21_ := aM ((bG3 hg BK385.out)); clear BK357; clear BK363; clear BK372; clear BK373; clear BK382; clear BK385; clear HB; have BK357 := n0_; have BK363 := n1_; have BK372 := n2_; have BK373 := n3_; have BK382 := n4_; have BK385 := n5_; have HB := n6_; have BK390 := n7_; have GW390 := n8_; have GE390 := n9_; have NB357_390 := n10_; have NB390_357 := n11_; have NB363_390 := n12_; have NB390_363 := n13_; have NB372_390 := n14_; have NB390_372 := n15_; have NB373_390 := n16_; have NB390_373 := n17_; have NB382_390 := n18_; have NB390_382 := n19_; have NB385_390 := n20_; have NB390_385 := n21_; clear n0_ n1_ n2_ n3_ n4_ n5_ n6_ n7_ n8_ n9_ n10_ n11_ n12_ n13_ n14_ n15_ n16_ n17_ n18_ n19_ n20_ n21_; clear hb hbox hg; have hnb251 := NB390_357.out; have hnc251 := NB357_390.out; have hnb252 := NB390_363.out; have hnc252 := NB363_390.out; have hnb253 := NB390_372.out; have hnc253 := NB372_390.out; have hnb254 := NB390_373.out; have hnc254 := NB373_390.out; have hnb255 := NB390_382.out; have hnc255 := NB382_390.out; have hnb256 := NB390_385.out; have hnc256 := NB385_390.out; have hcz257_0 := blk_cellL BK390.out 0 _ rfl; have hcz257_1 := blk_cellL BK390.out 1 _ rfl; have hfz257_0 := bF BK390.out 0; have hfz257_1 := bF BK390.out 1; have hcz258_0 := blk_cellL BK385.out 0 _ rfl; have hcz258_1 := blk_cellL BK385.out 1 _ rfl; have hfz258_0 := bF BK385.out 0; have hfz258_1 := bF BK385.out 1) | ((with_reducible refine gC (f := 13) rfl ?_); refine gY (some 135) Try.func13 #[.agg #[.int .u64 t386, .int .u64 t387], .agg #[.int .u64 t383, .int .u64 t384]] ?_; (with_reducible refine (twin_Add.calls t386 t387 t383 t384 t391 t392 t393 _ A225.out).mono ?_); rintro e w259 ⟨rfl, hb⟩; refine ⟨_, rfl, ?_⟩; have n0_ := aM (bB (g := gb357) (o := .cells #[.int .u64 a0_0, .int .u64 a0_1] 24 (0, 0)) (by (with_reducible repeat (first | refine bN ?_ _ | refine bD ?_ | refine bA ?_ _)); refine blk_far ?_ NB357_390.out _; (with_reducible repeat (first | refine bN ?_ _ | refine bD ?_ | refine bA ?_ _)); refine blk_far ?_ NB357_390.out _; (with_reducible repeat (first | refine bN ?_ _ | refine bD ?_ | refine bA ?_ _)); exact BK357.out) hb); have n1_ := aM (bB (g := gb363) (o := .cells #[.int .u64 t359, .int .u64 t360] 24 (0, 0)) (by (with_reducible repeat (first | refine bN ?_ _ | refine bD ?_ | refine bA ?_ _)); refine blk_far ?_ NB363_390.out _; (with_reducible repeat (first | refine bN ?_ _ | refine bD ?_ | refine bA ?_ _)); refine blk_far ?_ NB363_390.out _; (with_reducible repeat (first | refine bN ?_ _ | refine bD ?_ | refine bA ?_ _)); exact BK363.out) hb); have n2_ := aM (bB (g := gb372) (o := .cells #[.int .u64 t367, .int .u64 t368] 24 (0, 0)) (by (with_reducible repeat (first | refine bN ?_ _ | refine bD ?_ | refine bA ?_ _)); refine blk_far ?_ NB372_390.out _; (with_reducible repeat (first | refine bN ?_ _ | refine bD ?_ | refine bA ?_ _)); refine blk_far ?_ NB372_390.out _; (with_reducible repeat (first | refine bN ?_ _ | refine bD ?_ | refine bA ?_ _)); exact BK372.out) hb); have n3_ := aM (bB (g := gb373) (o := .cells #[.int .u64 t369, .int .u64 t370] 24 (0, 0)) (by (with_reducible repeat (first | refine bN ?_ _ | refine bD ?_ | refine bA ?_ _)); refine blk_far ?_ NB373_390.out _; (with_reducible repeat (first | refine bN ?_ _ | refine bD ?_ | refine bA ?_ _)); refine blk_far ?_ NB373_390.out _; (with_reducible repeat (first | refine bN ?_ _ | refine bD ?_ | refine bA ?_ _)); exact BK373.out) hb); have n4_ := aM (bB (g := gb382) (o := .cells #[.int .u64 t380, .int .u64 t381] 24 (0, 0)) (by (with_reducible repeat (first | refine bN ?_ _ | refine bD ?_ | refine bA ?_ _)); refine blk_far ?_ NB382_390.out _; (with_reducible repeat (first | refine bN ?_ _ | refine bD ?_ | refine bA ?_ _)); refine blk_far ?_ NB382_390.out _; (with_reducible repeat (first | refine bN ?_ _ | refine bD ?_ | refine bA ?_ _)); exact BK382.out) hb); have n5_ := aM (bB (g := gb385) (o := .cells #[.int .u64 t383, .int .u64 t384] 24 (0, 0)) (by (with_reducible repeat (first | refine bN ?_ _ | refine bD ?_ | refine bA ?_ _)); refine blk_far ?_ NB385_390.out _; (with_reducible repeat (first | refine bN ?_ _ | refine bD ?_ | refine bA ?_ _)); refine blk_far ?_ NB385_390.out _; (with_reducible repeat (first | refine bN ?_ _ | refine bD ?_ | refine bA ?_ _)); exact BK385.out) hb); have n6_ := aM (bB (g := gb390) (o := .cells #[.int .u64 t386, .int .u64 t387] 24 (0, 0)) (by (with_reducible repeat (first | refine bN ?_ _ | refine bD ?_ | refine bA ?_ _)); refine blk_put (cs := #[.int .u64 t386, .int .u64 0]) ?_ 1 _ rfl; (with_reducible repeat (first | refine bN ?_ _ | refine bD ?_ | refine bA ?_ _)); refine blk_put (cs := #[.int .u64 0, .int .u64 0]) ?_ 0 _ rfl; (with_reducible repeat (first | refine bN ?_ _ | refine bD ?_ | refine bA ?_ _)); exact BK390.out) hb); have n7_ := aM (bS3 HB.out hb); clear BK357; clear BK363; clear BK372; clear BK373; clear BK382; clear BK385; clear BK390; clear HB; have BK357 := n0_; have BK363 := n1_; have BK372 := n2_; have BK373 := n3_; have BK382 := n4_; have BK385 := n5_; have BK390 := n6_; have HB := n7_; clear n0_ n1_ n2_ n3_ n4_ n5_ n6_ n7_; (try clear hb)) | ((with_reducible refine gD (N := 20) rfl ?_); refine bE3 20 #[.int .u64 0, .int .u64 0] 24 ?hr ?_; (case hr => first | (go_simp; done) | (go_simp; rfl)); intro gb394 hg w260 hbox hb; have n0_ := aM (bB3 BK357.out hb); have n1_ := aM (bB3 BK363.out hb); have n2_ := aM (bB3 BK372.out hb); have n3_ := aM (bB3 BK373.out hb); have n4_ := aM (bB3 BK382.out hb); have n5_ := aM (bB3 BK385.out hb); have n6_ := aM (bB3 BK390.out hb); have n7_ := aM (bS3 HB.out hb); have n8_ := aM (hbox); have n9_ := aM ((bZ3 hg HB.out)); have n10_ := aM ((bZ3 hg HB.out)); have n11_ := aM ((bL3 hg BK357.out)); have n12_ := aM ((bG3 hg BK357.out)); have n13_ := aM ((bL3 hg BK363.out)); have n14_ := aM ((bG3 hg BK363.out)); have n15_ := aM ((bL3 hg BK372.out)); have n16_ := aM ((bG3 hg BK372.out)); have n17_ := aM ((bL3 hg BK373.out)); have n18_ := aM ((bG3 hg BK373.out)); have n19_ := aM ((bL3 hg BK382.out)); have n20_ := aM ((bG3 hg BK382.out)); have n21_ := aM ((bL3 hg BK385.out)); have n22_ := aM ((bG3 hg BK385.out)); have n23_ := aM ((bL3 hg BK390.out)); have n24_ := aM ((bG3 hg BK390.out)); clear BK357; clear BK363; clear BK372; clear BK373; clear BK382; clear BK385; clear BK390; clear HB; have BK357 := n0_; have BK363 := n1_; have BK372 := n2_; have BK373 := n3_; have BK382 := n4_; have BK385 := n5_; have BK390 := n6_; have HB := n7_; have BK394 := n8_; have GW394 := n9_; have GE394 := n10_; have NB357_394 := n11_; have NB394_357 := n12_; have NB363_394 := n13_; have NB394_363 := n14_; have NB372_394 := n15_; have NB394_372 := n16_; have NB373_394 := n17_; have NB394_373 := n18_; have NB382_394 := n19_; have NB394_382 := n20_; have NB385_394 := n21_; have NB394_385 := n22_; have NB390_394 := n23_; have NB394_390 := n24_; clear n0_ n1_ n2_ n3_ n4_ n5_ n6_ n7_ n8_ n9_ n10_ n11_ n12_ n13_ n14_ n15_ n16_ n17_ n18_ n19_ n20_ n21_ n22_ n23_ n24_; clear hb hbox hg; have hnb261 := NB394_357.out; have hnc261 := NB357_394.out; have hnb262 := NB394_363.out; have hnc262 := NB363_394.out; have hnb263 := NB394_372.out; have hnc263 := NB372_394.out; have hnb264 := NB394_373.out; have hnc264 := NB373_394.out; have hnb265 := NB394_382.out; have hnc265 := NB382_394.out; have hnb266 := NB394_385.out; have hnc266 := NB385_394.out; have hnb267 := NB394_390.out; have hnc267 := NB390_394.out; have hcz268_0 := blk_cellL BK394.out 0 _ rfl; have hcz268_1 := blk_cellL BK394.out 1 _ rfl; have hfz268_0 := bF BK394.out 0; have hfz268_1 := bF BK394.out 1) | ((with_reducible refine gC (f := 13) rfl ?_); refine gY (some 142) Try.func13 #[.agg #[.int .u64 t391, .int .u64 t392], .agg #[.int .u64 0, .int .u64 t361]] ?_; (with_reducible refine (twin_Add.calls t391 t392 0 t361 t395 t396 t397 _ A226.out).mono ?_); rintro e w269 ⟨rfl, hb⟩; refine ⟨_, rfl, ?_⟩; have n0_ := aM (bB (g := gb357) (o := .cells #[.int .u64 a0_0, .int .u64 a0_1] 24 (0, 0)) (by (with_reducible repeat (first | refine bN ?_ _ | refine bD ?_ | refine bA ?_ _)); refine blk_far ?_ NB357_394.out _; (with_reducible repeat (first | refine bN ?_ _ | refine bD ?_ | refine bA ?_ _)); refine blk_far ?_ NB357_394.out _; (with_reducible repeat (first | refine bN ?_ _ | refine bD ?_ | refine bA ?_ _)); exact BK357.out) hb); have n1_ := aM (bB (g := gb363) (o := .cells #[.int .u64 t359, .int .u64 t360] 24 (0, 0)) (by (with_reducible repeat (first | refine bN ?_ _ | refine bD ?_ | refine bA ?_ _)); refine blk_far ?_ NB363_394.out _; (with_reducible repeat (first | refine bN ?_ _ | refine bD ?_ | refine bA ?_ _)); refine blk_far ?_ NB363_394.out _; (with_reducible repeat (first | refine bN ?_ _ | refine bD ?_ | refine bA ?_ _)); exact BK363.out) hb); have n2_ := aM (bB (g := gb372) (o := .cells #[.int .u64 t367, .int .u64 t368] 24 (0, 0)) (by (with_reducible repeat (first | refine bN ?_ _ | refine bD ?_ | refine bA ?_ _)); refine blk_far ?_ NB372_394.out _; (with_reducible repeat (first | refine bN ?_ _ | refine bD ?_ | refine bA ?_ _)); refine blk_far ?_ NB372_394.out _; (with_reducible repeat (first | refine bN ?_ _ | refine bD ?_ | refine bA ?_ _)); exact BK372.out) hb); have n3_ := aM (bB (g := gb373) (o := .cells #[.int .u64 t369, .int .u64 t370] 24 (0, 0)) (by (with_reducible repeat (first | refine bN ?_ _ | refine bD ?_ | refine bA ?_ _)); refine blk_far ?_ NB373_394.out _; (with_reducible repeat (first | refine bN ?_ _ | refine bD ?_ | refine bA ?_ _)); refine blk_far ?_ NB373_394.out _; (with_reducible repeat (first | refine bN ?_ _ | refine bD ?_ | refine bA ?_ _)); exact BK373.out) hb); have n4_ := aM (bB (g := gb382) (o := .cells #[.int .u64 t380, .int .u64 t381] 24 (0, 0)) (by (with_reducible repeat (first | refine bN ?_ _ | refine bD ?_ | refine bA ?_ _)); refine blk_far ?_ NB382_394.out _; (with_reducible repeat (first | refine bN ?_ _ | refine bD ?_ | refine bA ?_ _)); refine blk_far ?_ NB382_394.out _; (with_reducible repeat (first | refine bN ?_ _ | refine bD ?_ | refine bA ?_ _)); exact BK382.out) hb); have n5_ := aM (bB (g := gb385) (o := .cells #[.int .u64 t383, .int .u64 t384] 24 (0, 0)) (by (with_reducible repeat (first | refine bN ?_ _ | refine bD ?_ | refine bA ?_ _)); refine blk_far ?_ NB385_394.out _; (with_reducible repeat (first | refine bN ?_ _ | refine bD ?_ | refine bA ?_ _)); refine blk_far ?_ NB385_394.out _; (with_reducible repeat (first | refine bN ?_ _ | refine bD ?_ | refine bA ?_ _)); exact BK385.out) hb); have n6_ := aM (bB (g := gb390) (o := .cells #[.int .u64 t386, .int .u64 t387] 24 (0, 0)) (by (with_reducible repeat (first | refine bN ?_ _ | refine bD ?_ | refine bA ?_ _)); refine blk_far ?_ NB390_394.out _; (with_reducible repeat (first | refine bN ?_ _ | refine bD ?_ | refine bA ?_ _)); refine blk_far ?_ NB390_394.out _; (with_reducible repeat (first | refine bN ?_ _ | refine bD ?_ | refine bA ?_ _)); exact BK390.out) hb); have n7_ := aM (bB (g := gb394) (o := .cells #[.int .u64 t391, .int .u64 t392] 24 (0, 0)) (by (with_reducible repeat (first | refine bN ?_ _ | refine bD ?_ | refine bA ?_ _)); refine blk_put (cs := #[.int .u64 t391, .int .u64 0]) ?_ 1 _ rfl; (with_reducible repeat (first | refine bN ?_ _ | refine bD ?_ | refine bA ?_ _)); refine blk_put (cs := #[.int .u64 0, .int .u64 0]) ?_ 0 _ rfl; (with_reducible repeat (first | refine bN ?_ _ | refine bD ?_ | refine bA ?_ _)); exact BK394.out) hb); have n8_ := aM (bS3 HB.out hb); clear BK357; clear BK363; clear BK372; clear BK373; clear BK382; clear BK385; clear BK390; clear BK394; clear HB; have BK357 := n0_; have BK363 := n1_; have BK372 := n2_; have BK373 := n3_; have BK382 := n4_; have BK385 := n5_; have BK390 := n6_; have BK394 := n7_; have HB := n8_; clear n0_ n1_ n2_ n3_ n4_ n5_ n6_ n7_ n8_; (try clear hb)) | ((with_reducible refine gD (N := 22) rfl ?_); refine bE3 22 #[.int .u64 0, .int .u64 0] 24 ?hr ?_; (case hr => first | (go_simp; done) | (go_simp; rfl)); intro gb398 hg w270 hbox hb; have n0_ := aM (bB3 BK357.out hb); have n1_ := aM (bB3 BK363.out hb); have n2_ := aM (bB3 BK372.out hb); have n3_ := aM (bB3 BK373.out hb); have n4_ := aM (bB3 BK382.out hb); have n5_ := aM (bB3 BK385.out hb); have n6_ := aM (bB3 BK390.out hb); have n7_ := aM (bB3 BK394.out hb); have n8_ := aM (bS3 HB.out hb); have n9_ := aM (hbox); have n10_ := aM ((bZ3 hg HB.out)); have n11_ := aM ((bZ3 hg HB.out)); have n12_ := aM ((bL3 hg BK357.out)); have n13_ := aM ((bG3 hg BK357.out)); have n14_ := aM ((bL3 hg BK363.out)); have n15_ := aM ((bG3 hg BK363.out)); have n16_ := aM ((bL3 hg BK372.out)); have n17_ := aM ((bG3 hg BK372.out)); have n18_ := aM ((bL3 hg BK373.out)); have n19_ := aM ((bG3 hg BK373.out)); have n20_ := aM ((bL3 hg BK382.out)); have n21_ := aM ((bG3 hg BK382.out)); have n22_ := aM ((bL3 hg BK385.out)); have n23_ := aM ((bG3 hg BK385.out)); have n24_ := aM ((bL3 hg BK390.out)); have n25_ := aM ((bG3 hg BK390.out)); have n26_ := aM ((bL3 hg BK394.out)); have n27_ := aM ((bG3 hg BK394.out)); clear BK357; clear BK363; clear BK372; clear BK373; clear BK382; clear BK385; clear BK390; clear BK394; clear HB; have BK357 := n0_; have BK363 := n1_; have BK372 := n2_; have BK373 := n3_; have BK382 := n4_; have BK385 := n5_; have BK390 := n6_; have BK394 := n7_; have HB := n8_; have BK398 := n9_; have GW398 := n10_; have GE398 := n11_; have NB357_398 := n12_; have NB398_357 := n13_; have NB363_398 := n14_; have NB398_363 := n15_; have NB372_398 := n16_; have NB398_372 := n17_; have NB373_398 := n18_; have NB398_373 := n19_; have NB382_398 := n20_; have NB398_382 := n21_; have NB385_398 := n22_; have NB398_385 := n23_; have NB390_398 := n24_; have NB398_390 := n25_; have NB394_398 := n26_; have NB398_394 := n27_; clear n0_ n1_ n2_ n3_ n4_ n5_ n6_ n7_ n8_ n9_ n10_ n11_ n12_ n13_ n14_ n15_ n16_ n17_ n18_ n19_ n20_ n21_ n22_ n23_ n24_ n25_ n26_ n27_; clear hb hbox hg; have hnb271 := NB398_357.out; have hnc271 := NB357_398.out; have hnb272 := NB398_363.out; have hnc272 := NB363_398.out; have hnb273 := NB398_372.out; have hnc273 := NB372_398.out; have hnb274 := NB398_373.out; have hnc274 := NB373_398.out; have hnb275 := NB398_382.out; have hnc275 := NB382_398.out; have hnb276 := NB398_385.out; have hnc276 := NB385_398.out; have hnb277 := NB398_390.out; have hnc277 := NB390_398.out; have hnb278 := NB398_394.out; have hnc278 := NB394_398.out; have hcz279_0 := blk_cellL BK398.out 0 _ rfl; have hcz279_1 := blk_cellL BK398.out 1 _ rfl; have hfz279_0 := bF BK398.out 0; have hfz279_1 := bF BK398.out 1))
                  go_ret
                  exact ⟨by first | rfl | (simp [errW_none, errW_some] <;> rfl) | (simp [*, errW_none, errW_some] <;> rfl), by repeat (first | (with_reducible first | exact HB.out | apply pA | apply pN | apply p1 | refine pS ?_ GE357.out | refine pS ?_ GE363.out | refine pS ?_ GE372.out | refine pS ?_ GE373.out | refine pS ?_ GE382.out | refine pS ?_ GE385.out | refine pS ?_ GE390.out | refine pS ?_ GE394.out | refine pS ?_ GE398.out) | exact HB.out)⟩
                · replace c227 := Bool.eq_false_iff.mpr c227
                  subst c227
                  have H1 : (if t389.isNone = true then (if t393 = true then (some false) else (if t397 = true then (some false) else (some (t395 == a0_0 && (t396 == a0_1))))) else (some false)) = some r := by rw [if_neg (show ¬ (false = true) by decide)] at H; exact H
                  clear H
                  have H := H1
                  clear H1
                  rcases t389 with _ | q399
                  · have H1 : (if t393 = true then (some false) else (if t397 = true then (some false) else (some (t395 == a0_0 && (t396 == a0_1))))) = some r := by rw [if_pos (show (none : Option Int).isNone = true by rfl)] at H; exact H
                    clear H
                    have H := H1
                    clear H1
                    try simp only [errW_none, errW_some]
                    by_cases c280 : t393 = true
                    · subst c280
                      have H1 : (some false) = some r := by rw [if_pos rfl] at H; exact H
                      clear H
                      have H := H1
                      clear H1
                      obtain rfl := Option.some.inj H
                      have hnb281 := NB363_357.out
                      have hnc281 := NB357_363.out
                      have hnb282 := NB363_372.out
                      have hnc282 := NB372_363.out
                      have hnb283 := NB363_373.out
                      have hnc283 := NB373_363.out
                      have hcz284_0 := blk_cellL BK363.out 0 _ rfl
                      have hcz284_1 := blk_cellL BK363.out 1 _ rfl
                      have hfz284_0 := bF BK363.out 0
                      have hfz284_1 := bF BK363.out 1
                      go_wp2_with (first | ((with_reducible refine gC (f := 11) rfl ?_); refine gY (some 121) Try.func11 #[.int .u64 t359, .int .u64 a1] ?_; (with_reducible refine (twin_Mul.calls t359 a1 t380 t381 _ A222.out).mono ?_); rintro e w285 ⟨rfl, hb⟩; refine ⟨_, rfl, ?_⟩; have n0_ := aM (bB3 BK357.out hb); have n1_ := aM (bB3 BK363.out hb); have n2_ := aM (bB3 BK372.out hb); have n3_ := aM (bB3 BK373.out hb); have n4_ := aM (bS3 HB.out hb); clear BK357; clear BK363; clear BK372; clear BK373; clear HB; have BK357 := n0_; have BK363 := n1_; have BK372 := n2_; have BK373 := n3_; have HB := n4_; clear n0_ n1_ n2_ n3_ n4_; (try clear hb)) | ((with_reducible refine gD (N := 15) rfl ?_); refine bE3 15 #[.int .u64 0, .int .u64 0] 24 ?hr ?_; (case hr => first | (go_simp; done) | (go_simp; rfl)); intro gb382 hg w286 hbox hb; have n0_ := aM (bB3 BK357.out hb); have n1_ := aM (bB3 BK363.out hb); have n2_ := aM (bB3 BK372.out hb); have n3_ := aM (bB3 BK373.out hb); have n4_ := aM (bS3 HB.out hb); have n5_ := aM (hbox); have n6_ := aM ((bZ3 hg HB.out)); have n7_ := aM ((bZ3 hg HB.out)); have n8_ := aM ((bL3 hg BK357.out)); have n9_ := aM ((bG3 hg BK357.out)); have n10_ := aM ((bL3 hg BK363.out)); have n11_ := aM ((bG3 hg BK363.out)); have n12_ := aM ((bL3 hg BK372.out)); have n13_ := aM ((bG3 hg BK372.out)); have n14_ := aM ((bL3 hg BK373.out)); have n15_ := aM ((bG3 hg BK373.out)); clear BK357; clear BK363; clear BK372; clear BK373; clear HB; have BK357 := n0_; have BK363 := n1_; have BK372 := n2_; have BK373 := n3_; have HB := n4_; have BK382 := n5_; have GW382 := n6_; have GE382 := n7_; have NB357_382 := n8_; have NB382_357 := n9_; have NB363_382 := n10_; have NB382_363 := n11_; have NB372_382 := n12_; have NB382_372 := n13_; have NB373_382 := n14_; have NB382_373 := n15_; clear n0_ n1_ n2_ n3_ n4_ n5_ n6_ n7_ n8_ n9_ n10_ n11_ n12_ n13_ n14_ n15_; clear hb hbox hg; have hnb287 := NB382_357.out; have hnc287 := NB357_382.out; have hnb288 := NB382_363.out; have hnc288 := NB363_382.out; have hnb289 := NB382_372.out; have hnc289 := NB372_382.out; have hnb290 := NB382_373.out; have hnc290 := NB373_382.out; have hcz291_0 := blk_cellL BK382.out 0 _ rfl; have hcz291_1 := blk_cellL BK382.out 1 _ rfl; have hfz291_0 := bF BK382.out 0; have hfz291_1 := bF BK382.out 1; have hcz292_0 := blk_cellL BK363.out 0 _ rfl; have hcz292_1 := blk_cellL BK363.out 1 _ rfl; have hfz292_0 := bF BK363.out 0; have hfz292_1 := bF BK363.out 1) | ((with_reducible refine gC (f := 11) rfl ?_); refine gY (some 125) Try.func11 #[.int .u64 t360, .int .u64 a1] ?_; (with_reducible refine (twin_Mul.calls t360 a1 t383 t384 _ A223.out).mono ?_); rintro e w293 ⟨rfl, hb⟩; refine ⟨_, rfl, ?_⟩; have n0_ := aM (bB (g := gb357) (o := .cells #[.int .u64 a0_0, .int .u64 a0_1] 24 (0, 0)) (by (with_reducible repeat (first | refine bN ?_ _ | refine bD ?_ | refine bA ?_ _)); refine blk_far ?_ NB357_382.out _; (with_reducible repeat (first | refine bN ?_ _ | refine bD ?_ | refine bA ?_ _)); refine blk_far ?_ NB357_382.out _; (with_reducible repeat (first | refine bN ?_ _ | refine bD ?_ | refine bA ?_ _)); exact BK357.out) hb); have n1_ := aM (bB (g := gb363) (o := .cells #[.int .u64 t359, .int .u64 t360] 24 (0, 0)) (by (with_reducible repeat (first | refine bN ?_ _ | refine bD ?_ | refine bA ?_ _)); refine blk_far ?_ NB363_382.out _; (with_reducible repeat (first | refine bN ?_ _ | refine bD ?_ | refine bA ?_ _)); refine blk_far ?_ NB363_382.out _; (with_reducible repeat (first | refine bN ?_ _ | refine bD ?_ | refine bA ?_ _)); exact BK363.out) hb); have n2_ := aM (bB (g := gb372) (o := .cells #[.int .u64 t367, .int .u64 t368] 24 (0, 0)) (by (with_reducible repeat (first | refine bN ?_ _ | refine bD ?_ | refine bA ?_ _)); refine blk_far ?_ NB372_382.out _; (with_reducible repeat (first | refine bN ?_ _ | refine bD ?_ | refine bA ?_ _)); refine blk_far ?_ NB372_382.out _; (with_reducible repeat (first | refine bN ?_ _ | refine bD ?_ | refine bA ?_ _)); exact BK372.out) hb); have n3_ := aM (bB (g := gb373) (o := .cells #[.int .u64 t369, .int .u64 t370] 24 (0, 0)) (by (with_reducible repeat (first | refine bN ?_ _ | refine bD ?_ | refine bA ?_ _)); refine blk_far ?_ NB373_382.out _; (with_reducible repeat (first | refine bN ?_ _ | refine bD ?_ | refine bA ?_ _)); refine blk_far ?_ NB373_382.out _; (with_reducible repeat (first | refine bN ?_ _ | refine bD ?_ | refine bA ?_ _)); exact BK373.out) hb); have n4_ := aM (bB (g := gb382) (o := .cells #[.int .u64 t380, .int .u64 t381] 24 (0, 0)) (by (with_reducible repeat (first | refine bN ?_ _ | refine bD ?_ | refine bA ?_ _)); refine blk_put (cs := #[.int .u64 t380, .int .u64 0]) ?_ 1 _ rfl; (with_reducible repeat (first | refine bN ?_ _ | refine bD ?_ | refine bA ?_ _)); refine blk_put (cs := #[.int .u64 0, .int .u64 0]) ?_ 0 _ rfl; (with_reducible repeat (first | refine bN ?_ _ | refine bD ?_ | refine bA ?_ _)); exact BK382.out) hb); have n5_ := aM (bS3 HB.out hb); clear BK357; clear BK363; clear BK372; clear BK373; clear BK382; clear HB; have BK357 := n0_; have BK363 := n1_; have BK372 := n2_; have BK373 := n3_; have BK382 := n4_; have HB := n5_; clear n0_ n1_ n2_ n3_ n4_ n5_; (try clear hb)) | ((with_reducible refine gD (N := 16) rfl ?_); refine bE3 16 #[.int .u64 0, .int .u64 0] 24 ?hr ?_; (case hr => first | (go_simp; done) | (go_simp; rfl)); intro gb385 hg w294 hbox hb; have n0_ := aM (bB3 BK357.out hb); have n1_ := aM (bB3 BK363.out hb); have n2_ := aM (bB3 BK372.out hb); have n3_ := aM (bB3 BK373.out hb); have n4_ := aM (bB3 BK382.out hb); have n5_ := aM (bS3 HB.out hb); have n6_ := aM (hbox); have n7_ := aM ((bZ3 hg HB.out)); have n8_ := aM ((bZ3 hg HB.out)); have n9_ := aM ((bL3 hg BK357.out)); have n10_ := aM ((bG3 hg BK357.out)); have n11_ := aM ((bL3 hg BK363.out)); have n12_ := aM ((bG3 hg BK363.out)); have n13_ := aM ((bL3 hg BK372.out)); have n14_ := aM ((bG3 hg BK372.out)); have n15_ := aM ((bL3 hg BK373.out)); have n16_ := aM ((bG3 hg BK373.out)); have n17_ := aM ((bL3 hg BK382.out)); have n18_ := aM ((bG3 hg BK382.out)); clear BK357; clear BK363; clear BK372; clear BK373; clear BK382; clear HB; have BK357 := n0_; have BK363 := n1_; have BK372 := n2_; have BK373 := n3_; have BK382 := n4_; have HB := n5_; have BK385 := n6_; have GW385 := n7_; have GE385 := n8_; have NB357_385 := n9_; have NB385_357 := n10_; have NB363_385 := n11_; have NB385_363 := n12_; have NB372_385 := n13_; have NB385_372 := n14_; have NB373_385 := n15_; have NB385_373 := n16_; have NB382_385 := n17_; have NB385_382 := n18_; clear n0_ n1_ n2_ n3_ n4_ n5_ n6_ n7_ n8_ n9_ n10_ n11_ n12_ n13_ n14_ n15_ n16_ n17_ n18_; clear hb hbox hg; have hnb295 := NB385_357.out; have hnc295 := NB357_385.out; have hnb296 := NB385_363.out; have hnc296 := NB363_385.out; have hnb297 := NB385_372.out; have hnc297 := NB372_385.out; have hnb298 := NB385_373.out; have hnc298 := NB373_385.out; have hnb299 := NB385_382.out; have hnc299 := NB382_385.out; have hcz300_0 := blk_cellL BK385.out 0 _ rfl; have hcz300_1 := blk_cellL BK385.out 1 _ rfl; have hfz300_0 := bF BK385.out 0; have hfz300_1 := bF BK385.out 1; have hcz301_0 := blk_cellL BK382.out 0 _ rfl; have hcz301_1 := blk_cellL BK382.out 1 _ rfl; have hfz301_0 := bF BK382.out 0; have hfz301_1 := bF BK382.out 1) | ((with_reducible refine gC (f := 12) rfl ?_); refine gY (some 128) Try.func12 #[.agg #[.int .u64 t380, .int .u64 t381], .int .i64 64] ?_; (with_reducible refine (twin_Shl.calls kj200 t380 t381 64 t386 t387 false none _ A224.out).mono ?_); rintro e w302 ⟨rfl, hb⟩; refine ⟨_, rfl, ?_⟩; have n0_ := aM (bB (g := gb357) (o := .cells #[.int .u64 a0_0, .int .u64 a0_1] 24 (0, 0)) (by (with_reducible repeat (first | refine bN ?_ _ | refine bD ?_ | refine bA ?_ _)); refine blk_far ?_ NB357_385.out _; (with_reducible repeat (first | refine bN ?_ _ | refine bD ?_ | refine bA ?_ _)); refine blk_far ?_ NB357_385.out _; (with_reducible repeat (first | refine bN ?_ _ | refine bD ?_ | refine bA ?_ _)); exact BK357.out) hb); have n1_ := aM (bB (g := gb363) (o := .cells #[.int .u64 t359, .int .u64 t360] 24 (0, 0)) (by (with_reducible repeat (first | refine bN ?_ _ | refine bD ?_ | refine bA ?_ _)); refine blk_far ?_ NB363_385.out _; (with_reducible repeat (first | refine bN ?_ _ | refine bD ?_ | refine bA ?_ _)); refine blk_far ?_ NB363_385.out _; (with_reducible repeat (first | refine bN ?_ _ | refine bD ?_ | refine bA ?_ _)); exact BK363.out) hb); have n2_ := aM (bB (g := gb372) (o := .cells #[.int .u64 t367, .int .u64 t368] 24 (0, 0)) (by (with_reducible repeat (first | refine bN ?_ _ | refine bD ?_ | refine bA ?_ _)); refine blk_far ?_ NB372_385.out _; (with_reducible repeat (first | refine bN ?_ _ | refine bD ?_ | refine bA ?_ _)); refine blk_far ?_ NB372_385.out _; (with_reducible repeat (first | refine bN ?_ _ | refine bD ?_ | refine bA ?_ _)); exact BK372.out) hb); have n3_ := aM (bB (g := gb373) (o := .cells #[.int .u64 t369, .int .u64 t370] 24 (0, 0)) (by (with_reducible repeat (first | refine bN ?_ _ | refine bD ?_ | refine bA ?_ _)); refine blk_far ?_ NB373_385.out _; (with_reducible repeat (first | refine bN ?_ _ | refine bD ?_ | refine bA ?_ _)); refine blk_far ?_ NB373_385.out _; (with_reducible repeat (first | refine bN ?_ _ | refine bD ?_ | refine bA ?_ _)); exact BK373.out) hb); have n4_ := aM (bB (g := gb382) (o := .cells #[.int .u64 t380, .int .u64 t381] 24 (0, 0)) (by (with_reducible repeat (first | refine bN ?_ _ | refine bD ?_ | refine bA ?_ _)); refine blk_far ?_ NB382_385.out _; (with_reducible repeat (first | refine bN ?_ _ | refine bD ?_ | refine bA ?_ _)); refine blk_far ?_ NB382_385.out _; (with_reducible repeat (first | refine bN ?_ _ | refine bD ?_ | refine bA ?_ _)); exact BK382.out) hb); have n5_ := aM (bB (g := gb385) (o := .cells #[.int .u64 t383, .int .u64 t384] 24 (0, 0)) (by (with_reducible repeat (first | refine bN ?_ _ | refine bD ?_ | refine bA ?_ _)); refine blk_put (cs := #[.int .u64 t383, .int .u64 0]) ?_ 1 _ rfl; (with_reducible repeat (first | refine bN ?_ _ | refine bD ?_ | refine bA ?_ _)); refine blk_put (cs := #[.int .u64 0, .int .u64 0]) ?_ 0 _ rfl; (with_reducible repeat (first | refine bN ?_ _ | refine bD ?_ | refine bA ?_ _)); exact BK385.out) hb); have n6_ := aM (bS3 HB.out hb); clear BK357; clear BK363; clear BK372; clear BK373; clear BK382; clear BK385; clear HB; have BK357 := n0_; have BK363 := n1_; have BK372 := n2_; have BK373 := n3_; have BK382 := n4_; have BK385 := n5_; have HB := n6_; clear n0_ n1_ n2_ n3_ n4_ n5_ n6_; (try clear hb); (try simp only [errW_none, errW_some])) | ((with_reducible refine gD (N := 17) rfl ?_); refine bE3 17 #[.int .u64 0, .int .u64 0] 24 ?hr ?_; (case hr => first | (go_simp; done) | (go_simp; rfl)); intro gb390 hg w303 hbox hb; have n0_ := aM (bB3 BK357.out hb); have n1_ := aM (bB3 BK363.out hb); have n2_ := aM (bB3 BK372.out hb); have n3_ := aM (bB3 BK373.out hb); have n4_ := aM (bB3 BK382.out hb); have n5_ := aM (bB3 BK385.out hb); have n6_ := aM (bS3 HB.out hb); have n7_ := aM (hbox); have n8_ := aM ((bZ3 hg HB.out)); have n9_ := aM ((bZ3 hg HB.out)); have n10_ := aM ((bL3 hg BK357.out)); have n11_ := aM ((bG3 hg BK357.out)); have n12_ := aM ((bL3 hg BK363.out)); have n13_ := aM ((bG3 hg BK363.out)); have n14_ := aM ((bL3 hg BK372.out)); have n15_ := aM ((bG3 hg BK372.out)); have n16_ := aM ((bL3 hg BK373.out)); have n17_ := aM ((bG3 hg BK373.out)); have n18_ := aM ((bL3 hg BK382.out)); have n19_ := aM ((bG3 hg BK382.out)); have n20_ := aM ((bL3 hg BK385.out)); have n21_ := aM ((bG3 hg BK385.out)); clear BK357; clear BK363; clear BK372; clear BK373; clear BK382; clear BK385; clear HB; have BK357 := n0_; have BK363 := n1_; have BK372 := n2_; have BK373 := n3_; have BK382 := n4_; have BK385 := n5_; have HB := n6_; have BK390 := n7_; have GW390 := n8_; have GE390 := n9_; have NB357_390 := n10_; have NB390_357 := n11_; have NB363_390 := n12_; have NB390_363 := n13_; have NB372_390 := n14_; have NB390_372 := n15_; have NB373_390 := n16_; have NB390_373 := n17_; have NB382_390 := n18_; have NB390_382 := n19_; have NB385_390 := n20_; have NB390_385 := n21_; clear n0_ n1_ n2_ n3_ n4_ n5_ n6_ n7_ n8_ n9_ n10_ n11_ n12_ n13_ n14_ n15_ n16_ n17_ n18_ n19_ n20_ n21_; clear hb hbox hg; have hnb304 := NB390_357.out; have hnc304 := NB357_390.out; have hnb305 := NB390_363.out; have hnc305 := NB363_390.out; have hnb306 := NB390_372.out; have hnc306 := NB372_390.out; have hnb307 := NB390_373.out; have hnc307 := NB373_390.out; have hnb308 := NB390_382.out; have hnc308 := NB382_390.out; have hnb309 := NB390_385.out; have hnc309 := NB385_390.out; have hcz310_0 := blk_cellL BK390.out 0 _ rfl; have hcz310_1 := blk_cellL BK390.out 1 _ rfl; have hfz310_0 := bF BK390.out 0; have hfz310_1 := bF BK390.out 1; have hcz311_0 := blk_cellL BK385.out 0 _ rfl; have hcz311_1 := blk_cellL BK385.out 1 _ rfl; have hfz311_0 := bF BK385.out 0; have hfz311_1 := bF BK385.out 1) | ((with_reducible refine gC (f := 13) rfl ?_); refine gY (some 135) Try.func13 #[.agg #[.int .u64 t386, .int .u64 t387], .agg #[.int .u64 t383, .int .u64 t384]] ?_; (with_reducible refine (twin_Add.calls t386 t387 t383 t384 t391 t392 true _ A225.out).mono ?_); rintro e w312 ⟨rfl, hb⟩; refine ⟨_, rfl, ?_⟩; have n0_ := aM (bB (g := gb357) (o := .cells #[.int .u64 a0_0, .int .u64 a0_1] 24 (0, 0)) (by (with_reducible repeat (first | refine bN ?_ _ | refine bD ?_ | refine bA ?_ _)); refine blk_far ?_ NB357_390.out _; (with_reducible repeat (first | refine bN ?_ _ | refine bD ?_ | refine bA ?_ _)); refine blk_far ?_ NB357_390.out _; (with_reducible repeat (first | refine bN ?_ _ | refine bD ?_ | refine bA ?_ _)); exact BK357.out) hb); have n1_ := aM (bB (g := gb363) (o := .cells #[.int .u64 t359, .int .u64 t360] 24 (0, 0)) (by (with_reducible repeat (first | refine bN ?_ _ | refine bD ?_ | refine bA ?_ _)); refine blk_far ?_ NB363_390.out _; (with_reducible repeat (first | refine bN ?_ _ | refine bD ?_ | refine bA ?_ _)); refine blk_far ?_ NB363_390.out _; (with_reducible repeat (first | refine bN ?_ _ | refine bD ?_ | refine bA ?_ _)); exact BK363.out) hb); have n2_ := aM (bB (g := gb372) (o := .cells #[.int .u64 t367, .int .u64 t368] 24 (0, 0)) (by (with_reducible repeat (first | refine bN ?_ _ | refine bD ?_ | refine bA ?_ _)); refine blk_far ?_ NB372_390.out _; (with_reducible repeat (first | refine bN ?_ _ | refine bD ?_ | refine bA ?_ _)); refine blk_far ?_ NB372_390.out _; (with_reducible repeat (first | refine bN ?_ _ | refine bD ?_ | refine bA ?_ _)); exact BK372.out) hb); have n3_ := aM (bB (g := gb373) (o := .cells #[.int .u64 t369, .int .u64 t370] 24 (0, 0)) (by (with_reducible repeat (first | refine bN ?_ _ | refine bD ?_ | refine bA ?_ _)); refine blk_far ?_ NB373_390.out _; (with_reducible repeat (first | refine bN ?_ _ | refine bD ?_ | refine bA ?_ _)); refine blk_far ?_ NB373_390.out _; (with_reducible repeat (first | refine bN ?_ _ | refine bD ?_ | refine bA ?_ _)); exact BK373.out) hb); have n4_ := aM (bB (g := gb382) (o := .cells #[.int .u64 t380, .int .u64 t381] 24 (0, 0)) (by (with_reducible repeat (first | refine bN ?_ _ | refine bD ?_ | refine bA ?_ _)); refine blk_far ?_ NB382_390.out _; (with_reducible repeat (first | refine bN ?_ _ | refine bD ?_ | refine bA ?_ _)); refine blk_far ?_ NB382_390.out _; (with_reducible repeat (first | refine bN ?_ _ | refine bD ?_ | refine bA ?_ _)); exact BK382.out) hb); have n5_ := aM (bB (g := gb385) (o := .cells #[.int .u64 t383, .int .u64 t384] 24 (0, 0)) (by (with_reducible repeat (first | refine bN ?_ _ | refine bD ?_ | refine bA ?_ _)); refine blk_far ?_ NB385_390.out _; (with_reducible repeat (first | refine bN ?_ _ | refine bD ?_ | refine bA ?_ _)); refine blk_far ?_ NB385_390.out _; (with_reducible repeat (first | refine bN ?_ _ | refine bD ?_ | refine bA ?_ _)); exact BK385.out) hb); have n6_ := aM (bB (g := gb390) (o := .cells #[.int .u64 t386, .int .u64 t387] 24 (0, 0)) (by (with_reducible repeat (first | refine bN ?_ _ | refine bD ?_ | refine bA ?_ _)); refine blk_put (cs := #[.int .u64 t386, .int .u64 0]) ?_ 1 _ rfl; (with_reducible repeat (first | refine bN ?_ _ | refine bD ?_ | refine bA ?_ _)); refine blk_put (cs := #[.int .u64 0, .int .u64 0]) ?_ 0 _ rfl; (with_reducible repeat (first | refine bN ?_ _ | refine bD ?_ | refine bA ?_ _)); exact BK390.out) hb); have n7_ := aM (bS3 HB.out hb); clear BK357; clear BK363; clear BK372; clear BK373; clear BK382; clear BK385; clear BK390; clear HB; have BK357 := n0_; have BK363 := n1_; have BK372 := n2_; have BK373 := n3_; have BK382 := n4_; have BK385 := n5_; have BK390 := n6_; have HB := n7_; clear n0_ n1_ n2_ n3_ n4_ n5_ n6_ n7_; (try clear hb)) | ((with_reducible refine gD (N := 20) rfl ?_); refine bE3 20 #[.int .u64 0, .int .u64 0] 24 ?hr ?_; (case hr => first | (go_simp; done) | (go_simp; rfl)); intro gb394 hg w313 hbox hb; have n0_ := aM (bB3 BK357.out hb); have n1_ := aM (bB3 BK363.out hb); have n2_ := aM (bB3 BK372.out hb); have n3_ := aM (bB3 BK373.out hb); have n4_ := aM (bB3 BK382.out hb); have n5_ := aM (bB3 BK385.out hb); have n6_ := aM (bB3 BK390.out hb); have n7_ := aM (bS3 HB.out hb); have n8_ := aM (hbox); have n9_ := aM ((bZ3 hg HB.out)); have n10_ := aM ((bZ3 hg HB.out)); have n11_ := aM ((bL3 hg BK357.out)); have n12_ := aM ((bG3 hg BK357.out)); have n13_ := aM ((bL3 hg BK363.out)); have n14_ := aM ((bG3 hg BK363.out)); have n15_ := aM ((bL3 hg BK372.out)); have n16_ := aM ((bG3 hg BK372.out)); have n17_ := aM ((bL3 hg BK373.out)); have n18_ := aM ((bG3 hg BK373.out)); have n19_ := aM ((bL3 hg BK382.out)); have n20_ := aM ((bG3 hg BK382.out)); have n21_ := aM ((bL3 hg BK385.out)); have n22_ := aM ((bG3 hg BK385.out)); have n23_ := aM ((bL3 hg BK390.out)); have n24_ := aM ((bG3 hg BK390.out)); clear BK357; clear BK363; clear BK372; clear BK373; clear BK382; clear BK385; clear BK390; clear HB; have BK357 := n0_; have BK363 := n1_; have BK372 := n2_; have BK373 := n3_; have BK382 := n4_; have BK385 := n5_; have BK390 := n6_; have HB := n7_; have BK394 := n8_; have GW394 := n9_; have GE394 := n10_; have NB357_394 := n11_; have NB394_357 := n12_; have NB363_394 := n13_; have NB394_363 := n14_; have NB372_394 := n15_; have NB394_372 := n16_; have NB373_394 := n17_; have NB394_373 := n18_; have NB382_394 := n19_; have NB394_382 := n20_; have NB385_394 := n21_; have NB394_385 := n22_; have NB390_394 := n23_; have NB394_390 := n24_; clear n0_ n1_ n2_ n3_ n4_ n5_ n6_ n7_ n8_ n9_ n10_ n11_ n12_ n13_ n14_ n15_ n16_ n17_ n18_ n19_ n20_ n21_ n22_ n23_ n24_; clear hb hbox hg; have hnb314 := NB394_357.out; have hnc314 := NB357_394.out; have hnb315 := NB394_363.out; have hnc315 := NB363_394.out; have hnb316 := NB394_372.out; have hnc316 := NB372_394.out; have hnb317 := NB394_373.out; have hnc317 := NB373_394.out; have hnb318 := NB394_382.out; have hnc318 := NB382_394.out; have hnb319 := NB394_385.out; have hnc319 := NB385_394.out; have hnb320 := NB394_390.out; have hnc320 := NB390_394.out; have hcz321_0 := blk_cellL BK394.out 0 _ rfl; have hcz321_1 := blk_cellL BK394.out 1 _ rfl; have hfz321_0 := bF BK394.out 0; have hfz321_1 := bF BK394.out 1) | ((with_reducible refine gC (f := 13) rfl ?_); refine gY (some 142) Try.func13 #[.agg #[.int .u64 t391, .int .u64 t392], .agg #[.int .u64 0, .int .u64 t361]] ?_; (with_reducible refine (twin_Add.calls t391 t392 0 t361 t395 t396 t397 _ A226.out).mono ?_); rintro e w322 ⟨rfl, hb⟩; refine ⟨_, rfl, ?_⟩; have n0_ := aM (bB (g := gb357) (o := .cells #[.int .u64 a0_0, .int .u64 a0_1] 24 (0, 0)) (by (with_reducible repeat (first | refine bN ?_ _ | refine bD ?_ | refine bA ?_ _)); refine blk_far ?_ NB357_394.out _; (with_reducible repeat (first | refine bN ?_ _ | refine bD ?_ | refine bA ?_ _)); refine blk_far ?_ NB357_394.out _; (with_reducible repeat (first | refine bN ?_ _ | refine bD ?_ | refine bA ?_ _)); exact BK357.out) hb); have n1_ := aM (bB (g := gb363) (o := .cells #[.int .u64 t359, .int .u64 t360] 24 (0, 0)) (by (with_reducible repeat (first | refine bN ?_ _ | refine bD ?_ | refine bA ?_ _)); refine blk_far ?_ NB363_394.out _; (with_reducible repeat (first | refine bN ?_ _ | refine bD ?_ | refine bA ?_ _)); refine blk_far ?_ NB363_394.out _; (with_reducible repeat (first | refine bN ?_ _ | refine bD ?_ | refine bA ?_ _)); exact BK363.out) hb); have n2_ := aM (bB (g := gb372) (o := .cells #[.int .u64 t367, .int .u64 t368] 24 (0, 0)) (by (with_reducible repeat (first | refine bN ?_ _ | refine bD ?_ | refine bA ?_ _)); refine blk_far ?_ NB372_394.out _; (with_reducible repeat (first | refine bN ?_ _ | refine bD ?_ | refine bA ?_ _)); refine blk_far ?_ NB372_394.out _; (with_reducible repeat (first | refine bN ?_ _ | refine bD ?_ | refine bA ?_ _)); exact BK372.out) hb); have n3_ := aM (bB (g := gb373) (o := .cells #[.int .u64 t369, .int .u64 t370] 24 (0, 0)) (by (with_reducible repeat (first | refine bN ?_ _ | refine bD ?_ | refine bA ?_ _)); refine blk_far ?_ NB373_394.out _; (with_reducible repeat (first | refine bN ?_ _ | refine bD ?_ | refine bA ?_ _)); refine blk_far ?_ NB373_394.out _; (with_reducible repeat (first | refine bN ?_ _ | refine bD ?_ | refine bA ?_ _)); exact BK373.out) hb); have n4_ := aM (bB (g := gb382) (o := .cells #[.int .u64 t380, .int .u64 t381] 24 (0, 0)) (by (with_reducible repeat (first | refine bN ?_ _ | refine bD ?_ | refine bA ?_ _)); refine blk_far ?_ NB382_394.out _; (with_reducible repeat (first | refine bN ?_ _ | refine bD ?_ | refine bA ?_ _)); refine blk_far ?_ NB382_394.out _; (with_reducible repeat (first | refine bN ?_ _ | refine bD ?_ | refine bA ?_ _)); exact BK382.out) hb); have n5_ := aM (bB (g := gb385) (o := .cells #[.int .u64 t383, .int .u64 t384] 24 (0, 0)) (by (with_reducible repeat (first | refine bN ?_ _ | refine bD ?_ | refine bA ?_ _)); refine blk_far ?_ NB385_394.out _; (with_reducible repeat (first | refine bN ?_ _ | refine bD ?_ | refine bA ?_ _)); refine blk_far ?_ NB385_394.out _; (with_reducible repeat (first | refine bN ?_ _ | refine bD ?_ | refine bA ?_ _)); exact BK385.out) hb); have n6_ := aM (bB (g := gb390) (o := .cells #[.int .u64 t386, .int .u64 t387] 24 (0, 0)) (by (with_reducible repeat (first | refine bN ?_ _ | refine bD ?_ | refine bA ?_ _)); refine blk_far ?_ NB390_394.out _; (with_reducible repeat (first | refine bN ?_ _ | refine bD ?_ | refine bA ?_ _)); refine blk_far ?_ NB390_394.out _; (with_reducible repeat (first | refine bN ?_ _ | refine bD ?_ | refine bA ?_ _)); exact BK390.out) hb); have n7_ := aM (bB (g := gb394) (o := .cells #[.int .u64 t391, .int .u64 t392] 24 (0, 0)) (by (with_reducible repeat (first | refine bN ?_ _ | refine bD ?_ | refine bA ?_ _)); refine blk_put (cs := #[.int .u64 t391, .int .u64 0]) ?_ 1 _ rfl; (with_reducible repeat (first | refine bN ?_ _ | refine bD ?_ | refine bA ?_ _)); refine blk_put (cs := #[.int .u64 0, .int .u64 0]) ?_ 0 _ rfl; (with_reducible repeat (first | refine bN ?_ _ | refine bD ?_ | refine bA ?_ _)); exact BK394.out) hb); have n8_ := aM (bS3 HB.out hb); clear BK357; clear BK363; clear BK372; clear BK373; clear BK382; clear BK385; clear BK390; clear BK394; clear HB; have BK357 := n0_; have BK363 := n1_; have BK372 := n2_; have BK373 := n3_; have BK382 := n4_; have BK385 := n5_; have BK390 := n6_; have BK394 := n7_; have HB := n8_; clear n0_ n1_ n2_ n3_ n4_ n5_ n6_ n7_ n8_; (try clear hb)) | ((with_reducible refine gD (N := 22) rfl ?_); refine bE3 22 #[.int .u64 0, .int .u64 0] 24 ?hr ?_; (case hr => first | (go_simp; done) | (go_simp; rfl)); intro gb398 hg w323 hbox hb; have n0_ := aM (bB3 BK357.out hb); have n1_ := aM (bB3 BK363.out hb); have n2_ := aM (bB3 BK372.out hb); have n3_ := aM (bB3 BK373.out hb); have n4_ := aM (bB3 BK382.out hb); have n5_ := aM (bB3 BK385.out hb); have n6_ := aM (bB3 BK390.out hb); have n7_ := aM (bB3 BK394.out hb); have n8_ := aM (bS3 HB.out hb); have n9_ := aM (hbox); have n10_ := aM ((bZ3 hg HB.out)); have n11_ := aM ((bZ3 hg HB.out)); have n12_ := aM ((bL3 hg BK357.out)); have n13_ := aM ((bG3 hg BK357.out)); have n14_ := aM ((bL3 hg BK363.out)); have n15_ := aM ((bG3 hg BK363.out)); have n16_ := aM ((bL3 hg BK372.out)); have n17_ := aM ((bG3 hg BK372.out)); have n18_ := aM ((bL3 hg BK373.out)); have n19_ := aM ((bG3 hg BK373.out)); have n20_ := aM ((bL3 hg BK382.out)); have n21_ := aM ((bG3 hg BK382.out)); have n22_ := aM ((bL3 hg BK385.out)); have n23_ := aM ((bG3 hg BK385.out)); have n24_ := aM ((bL3 hg BK390.out)); have n25_ := aM ((bG3 hg BK390.out)); have n26_ := aM ((bL3 hg BK394.out)); have n27_ := aM ((bG3 hg BK394.out)); clear BK357; clear BK363; clear BK372; clear BK373; clear BK382; clear BK385; clear BK390; clear BK394; clear HB; have BK357 := n0_; have BK363 := n1_; have BK372 := n2_; have BK373 := n3_; have BK382 := n4_; have BK385 := n5_; have BK390 := n6_; have BK394 := n7_; have HB := n8_; have BK398 := n9_; have GW398 := n10_; have GE398 := n11_; have NB357_398 := n12_; have NB398_357 := n13_; have NB363_398 := n14_; have NB398_363 := n15_; have NB372_398 := n16_; have NB398_372 := n17_; have NB373_398 := n18_; have NB398_373 := n19_; have NB382_398 := n20_; have NB398_382 := n21_; have NB385_398 := n22_; have NB398_385 := n23_; have NB390_398 := n24_; have NB398_390 := n25_; have NB394_398 := n26_; have NB398_394 := n27_; clear n0_ n1_ n2_ n3_ n4_ n5_ n6_ n7_ n8_ n9_ n10_ n11_ n12_ n13_ n14_ n15_ n16_ n17_ n18_ n19_ n20_ n21_ n22_ n23_ n24_ n25_ n26_ n27_; clear hb hbox hg; have hnb324 := NB398_357.out; have hnc324 := NB357_398.out; have hnb325 := NB398_363.out; have hnc325 := NB363_398.out; have hnb326 := NB398_372.out; have hnc326 := NB372_398.out; have hnb327 := NB398_373.out; have hnc327 := NB373_398.out; have hnb328 := NB398_382.out; have hnc328 := NB382_398.out; have hnb329 := NB398_385.out; have hnc329 := NB385_398.out; have hnb330 := NB398_390.out; have hnc330 := NB390_398.out; have hnb331 := NB398_394.out; have hnc331 := NB394_398.out; have hcz332_0 := blk_cellL BK398.out 0 _ rfl; have hcz332_1 := blk_cellL BK398.out 1 _ rfl; have hfz332_0 := bF BK398.out 0; have hfz332_1 := bF BK398.out 1))
                      go_ret
                      exact ⟨by first | rfl | (simp [errW_none, errW_some] <;> rfl) | (simp [*, errW_none, errW_some] <;> rfl), by repeat (first | (with_reducible first | exact HB.out | apply pA | apply pN | apply p1 | refine pS ?_ GE357.out | refine pS ?_ GE363.out | refine pS ?_ GE372.out | refine pS ?_ GE373.out | refine pS ?_ GE382.out | refine pS ?_ GE385.out | refine pS ?_ GE390.out | refine pS ?_ GE394.out | refine pS ?_ GE398.out) | exact HB.out)⟩
                    · replace c280 := Bool.eq_false_iff.mpr c280
                      subst c280
                      have H1 : (if t397 = true then (some false) else (some (t395 == a0_0 && (t396 == a0_1)))) = some r := by rw [if_neg (show ¬ (false = true) by decide)] at H; exact H
                      clear H
                      have H := H1
                      clear H1
                      by_cases c333 : t397 = true
                      · subst c333
                        have H1 : (some false) = some r := by rw [if_pos rfl] at H; exact H
                        clear H
                        have H := H1
                        clear H1
                        obtain rfl := Option.some.inj H
                        have hnb334 := NB363_357.out
                        have hnc334 := NB357_363.out
                        have hnb335 := NB363_372.out
                        have hnc335 := NB372_363.out
                        have hnb336 := NB363_373.out
                        have hnc336 := NB373_363.out
                        have hcz337_0 := blk_cellL BK363.out 0 _ rfl
                        have hcz337_1 := blk_cellL BK363.out 1 _ rfl
                        have hfz337_0 := bF BK363.out 0
                        have hfz337_1 := bF BK363.out 1
                        go_wp2_with (first | ((with_reducible refine gC (f := 11) rfl ?_); refine gY (some 121) Try.func11 #[.int .u64 t359, .int .u64 a1] ?_; (with_reducible refine (twin_Mul.calls t359 a1 t380 t381 _ A222.out).mono ?_); rintro e w338 ⟨rfl, hb⟩; refine ⟨_, rfl, ?_⟩; have n0_ := aM (bB3 BK357.out hb); have n1_ := aM (bB3 BK363.out hb); have n2_ := aM (bB3 BK372.out hb); have n3_ := aM (bB3 BK373.out hb); have n4_ := aM (bS3 HB.out hb); clear BK357; clear BK363; clear BK372; clear BK373; clear HB; have BK357 := n0_; have BK363 := n1_; have BK372 := n2_; have BK373 := n3_; have HB := n4_; clear n0_ n1_ n2_ n3_ n4_; (try clear hb)) | ((with_reducible refine gD (N := 15) rfl ?_); refine bE3 15 #[.int .u64 0, .int .u64 0] 24 ?hr ?_; (case hr => first | (go_simp; done) | (go_simp; rfl)); intro gb382 hg w339 hbox hb; have n0_ := aM (bB3 BK357.out hb); have n1_ := aM (bB3 BK363.out hb); have n2_ := aM (bB3 BK372.out hb); have n3_ := aM (bB3 BK373.out hb); have n4_ := aM (bS3 HB.out hb); have n5_ := aM (hbox); have n6_ := aM ((bZ3 hg HB.out)); have n7_ := aM ((bZ3 hg HB.out)); have n8_ := aM ((bL3 hg BK357.out)); have n9_ := aM ((bG3 hg BK357.out)); have n10_ := aM ((bL3 hg BK363.out)); have n11_ := aM ((bG3 hg BK363.out)); have n12_ := aM ((bL3 hg BK372.out)); have n13_ := aM ((bG3 hg BK372.out)); have n14_ := aM ((bL3 hg BK373.out)); have n15_ := aM ((bG3 hg BK373.out)); clear BK357; clear BK363; clear BK372; clear BK373; clear HB; have BK357 := n0_; have BK363 := n1_; have BK372 := n2_; have BK373 := n3_; have HB := n4_; have BK382 := n5_; have GW382 := n6_; have GE382 := n7_; have NB357_382 := n8_; have NB382_357 := n9_; have NB363_382 := n10_; have NB382_363 := n11_; have NB372_382 := n12_; have NB382_372 := n13_; have NB373_382 := n14_; have NB382_373 := n15_; clear n0_ n1_ n2_ n3_ n4_ n5_ n6_ n7_ n8_ n9_ n10_ n11_ n12_ n13_ n14_ n15_; clear hb hbox hg; have hnb340 := NB382_357.out; have hnc340 := NB357_382.out; have hnb341 := NB382_363.out; have hnc341 := NB363_382.out; have hnb342 := NB382_372.out; have hnc342 := NB372_382.out; have hnb343 := NB382_373.out; have hnc343 := NB373_382.out; have hcz344_0 := blk_cellL BK382.out 0 _ rfl; have hcz344_1 := blk_cellL BK382.out 1 _ rfl; have hfz344_0 := bF BK382.out 0; have hfz344_1 := bF BK382.out 1; have hcz345_0 := blk_cellL BK363.out 0 _ rfl; have hcz345_1 := blk_cellL BK363.out 1 _ rfl; have hfz345_0 := bF BK363.out 0; have hfz345_1 := bF BK363.out 1) | ((with_reducible refine gC (f := 11) rfl ?_); refine gY (some 125) Try.func11 #[.int .u64 t360, .int .u64 a1] ?_; (with_reducible refine (twin_Mul.calls t360 a1 t383 t384 _ A223.out).mono ?_); rintro e w346 ⟨rfl, hb⟩; refine ⟨_, rfl, ?_⟩; have n0_ := aM (bB (g := gb357) (o := .cells #[.int .u64 a0_0, .int .u64 a0_1] 24 (0, 0)) (by (with_reducible repeat (first | refine bN ?_ _ | refine bD ?_ | refine bA ?_ _)); refine blk_far ?_ NB357_382.out _; (with_reducible repeat (first | refine bN ?_ _ | refine bD ?_ | refine bA ?_ _)); refine blk_far ?_ NB357_382.out _; (with_reducible repeat (first | refine bN ?_ _ | refine bD ?_ | refine bA ?_ _)); exact BK357.out) hb); have n1_ := aM (bB (g := gb363) (o := .cells #[.int .u64 t359, .int .u64 t360] 24 (0, 0)) (by (with_reducible repeat (first | refine bN ?_ _ | refine bD ?_ | refine bA ?_ _)); refine blk_far ?_ NB363_382.out _; (with_reducible repeat (first | refine bN ?_ _ | refine bD ?_ | refine bA ?_ _)); refine blk_far ?_ NB363_382.out _; (with_reducible repeat (first | refine bN ?_ _ | refine bD ?_ | refine bA ?_ _)); exact BK363.out) hb); have n2_ := aM (bB (g := gb372) (o := .cells #[.int .u64 t367, .int .u64 t368] 24 (0, 0)) (by (with_reducible repeat (first | refine bN ?_ _ | refine bD ?_ | refine bA ?_ _)); refine blk_far ?_ NB372_382.out _; (with_reducible repeat (first | refine bN ?_ _ | refine bD ?_ | refine bA ?_ _)); refine blk_far ?_ NB372_382.out _; (with_reducible repeat (first | refine bN ?_ _ | refine bD ?_ | refine bA ?_ _)); exact BK372.out) hb); have n3_ := aM (bB (g := gb373) (o := .cells #[.int .u64 t369, .int .u64 t370] 24 (0, 0)) (by (with_reducible repeat (first | refine bN ?_ _ | refine bD ?_ | refine bA ?_ _)); refine blk_far ?_ NB373_382.out _; (with_reducible repeat (first | refine bN ?_ _ | refine bD ?_ | refine bA ?_ _)); refine blk_far ?_ NB373_382.out _; (with_reducible repeat (first | refine bN ?_ _ | refine bD ?_ | refine bA ?_ _)); exact BK373.out) hb); have n4_ := aM (bB (g := gb382) (o := .cells #[.int .u64 t380, .int .u64 t381] 24 (0, 0)) (by (with_reducible repeat (first | refine bN ?_ _ | refine bD ?_ | refine bA ?_ _)); refine blk_put (cs := #[.int .u64 t380, .int .u64 0]) ?_ 1 _ rfl; (with_reducible repeat (first | refine bN ?_ _ | refine bD ?_ | refine bA ?_ _)); refine blk_put (cs := #[.int .u64 0, .int .u64 0]) ?_ 0 _ rfl; (with_reducible repeat (first | refine bN ?_ _ | refine bD ?_ | refine bA ?_ _)); exact BK382.out) hb); have n5_ := aM (bS3 HB.out hb); clear BK357; clear BK363; clear BK372; clear BK373; clear BK382; clear HB; have BK357 := n0_; have BK363 := n1_; have BK372 := n2_; have BK373 := n3_; have BK382 := n4_; have HB := n5_; clear n0_ n1_ n2_ n3_ n4_ n5_; (try clear hb)) | ((with_reducible refine gD (N := 16) rfl ?_); refine bE3 16 #[.int .u64 0, .int .u64 0] 24 ?hr ?_; (case hr => first | (go_simp; done) | (go_simp; rfl)); intro gb385 hg w347 hbox hb; have n0_ := aM (bB3 BK357.out hb); have n1_ := aM (bB3 BK363.out hb); have n2_ := aM (bB3 BK372.out hb); have n3_ := aM (bB3 BK373.out hb); have n4_ := aM (bB3 BK382.out hb); have n5_ := aM (bS3 HB.out hb); have n6_ := aM (hbox); have n7_ := aM ((bZ3 hg HB.out)); have n8_ := aM ((bZ3 hg HB.out)); have n9_ := aM ((bL3 hg BK357.out)); have n10_ := aM ((bG3 hg BK357.out)); have n11_ := aM ((bL3 hg BK363.out)); have n12_ := aM ((bG3 hg BK363.out)); have n13_ := aM ((bL3 hg BK372.out)); have n14_ := aM ((bG3 hg BK372.out)); have n15_ := aM ((bL3 hg BK373.out)); have n16_ := aM ((bG3 hg BK373.out)); have n17_ := aM ((bL3 hg BK382.out)); have n18_ := aM ((bG3 hg BK382.out)); clear BK357; clear BK363; clear BK372; clear BK373; clear BK382; clear HB; have BK357 := n0_; have BK363 := n1_; have BK372 := n2_; have BK373 := n3_; have BK382 := n4_; have HB := n5_; have BK385 := n6_; have GW385 := n7_; have GE385 := n8_; have NB357_385 := n9_; have NB385_357 := n10_; have NB363_385 := n11_; have NB385_363 := n12_; have NB372_385 := n13_; have NB385_372 := n14_; have NB373_385 := n15_; have NB385_373 := n16_; have NB382_385 := n17_; have NB385_382 := n18_; clear n0_ n1_ n2_ n3_ n4_ n5_ n6_ n7_ n8_ n9_ n10_ n11_ n12_ n13_ n14_ n15_ n16_ n17_ n18_; clear hb hbox hg; have hnb348 := NB385_357.out; have hnc348 := NB357_385.out; have hnb349 := NB385_363.out; have hnc349 := NB363_385.out; have hnb350 := NB385_372.out; have hnc350 := NB372_385.out; have hnb351 := NB385_373.out; have hnc351 := NB373_385.out; have hnb352 := NB385_382.out; have hnc352 := NB382_385.out; have hcz353_0 := blk_cellL BK385.out 0 _ rfl; have hcz353_1 := blk_cellL BK385.out 1 _ rfl; have hfz353_0 := bF BK385.out 0; have hfz353_1 := bF BK385.out 1; have hcz354_0 := blk_cellL BK382.out 0 _ rfl; have hcz354_1 := blk_cellL BK382.out 1 _ rfl; have hfz354_0 := bF BK382.out 0; have hfz354_1 := bF BK382.out 1) | ((with_reducible refine gC (f := 12) rfl ?_); refine gY (some 128) Try.func12 #[.agg #[.int .u64 t380, .int .u64 t381], .int .i64 64] ?_; (with_reducible refine (twin_Shl.calls kj200 t380 t381 64 t386 t387 false none _ A224.out).mono ?_); rintro e w355 ⟨rfl, hb⟩; refine ⟨_, rfl, ?_⟩; have n0_ := aM (bB (g := gb357) (o := .cells #[.int .u64 a0_0, .int .u64 a0_1] 24 (0, 0)) (by (with_reducible repeat (first | refine bN ?_ _ | refine bD ?_ | refine bA ?_ _)); refine blk_far ?_ NB357_385.out _; (with_reducible repeat (first | refine bN ?_ _ | refine bD ?_ | refine bA ?_ _)); refine blk_far ?_ NB357_385.out _; (with_reducible repeat (first | refine bN ?_ _ | refine bD ?_ | refine bA ?_ _)); exact BK357.out) hb); have n1_ := aM (bB (g := gb363) (o := .cells #[.int .u64 t359, .int .u64 t360] 24 (0, 0)) (by (with_reducible repeat (first | refine bN ?_ _ | refine bD ?_ | refine bA ?_ _)); refine blk_far ?_ NB363_385.out _; (with_reducible repeat (first | refine bN ?_ _ | refine bD ?_ | refine bA ?_ _)); refine blk_far ?_ NB363_385.out _; (with_reducible repeat (first | refine bN ?_ _ | refine bD ?_ | refine bA ?_ _)); exact BK363.out) hb); have n2_ := aM (bB (g := gb372) (o := .cells #[.int .u64 t367, .int .u64 t368] 24 (0, 0)) (by (with_reducible repeat (first | refine bN ?_ _ | refine bD ?_ | refine bA ?_ _)); refine blk_far ?_ NB372_385.out _; (with_reducible repeat (first | refine bN ?_ _ | refine bD ?_ | refine bA ?_ _)); refine blk_far ?_ NB372_385.out _; (with_reducible repeat (first | refine bN ?_ _ | refine bD ?_ | refine bA ?_ _)); exact BK372.out) hb); have n3_ := aM (bB (g := gb373) (o := .cells #[.int .u64 t369, .int .u64 t370] 24 (0, 0)) (by (with_reducible repeat (first | refine bN ?_ _ | refine bD ?_ | refine bA ?_ _)); refine blk_far ?_ NB373_385.out _; (with_reducible repeat (first | refine bN ?_ _ | refine bD ?_ | refine bA ?_ _)); refine blk_far ?_ NB373_385.out _; (with_reducible repeat (first | refine bN ?_ _ | refine bD ?_ | refine bA ?_ _)); exact BK373.out) hb); have n4_ := aM (bB (g := gb382) (o := .cells #[.int .u64 t380, .int .u64 t381] 24 (0, 0)) (by (with_reducible repeat (first | refine bN ?_ _ | refine bD ?_ | refine bA ?_ _)); refine blk_far ?_ NB382_385.out _; (with_reducible repeat (first | refine bN ?_ _ | refine bD ?_ | refine bA ?_ _)); refine blk_far ?_ NB382_385.out _; (with_reducible repeat (first | refine bN ?_ _ | refine bD ?_ | refine bA ?_ _)); exact BK382.out) hb); have n5_ := aM (bB (g := gb385) (o := .cells #[.int .u64 t383, .int .u64 t384] 24 (0, 0)) (by (with_reducible repeat (first | refine bN ?_ _ | refine bD ?_ | refine bA ?_ _)); refine blk_put (cs := #[.int .u64 t383, .int .u64 0]) ?_ 1 _ rfl; (with_reducible repeat (first | refine bN ?_ _ | refine bD ?_ | refine bA ?_ _)); refine blk_put (cs := #[.int .u64 0, .int .u64 0]) ?_ 0 _ rfl; (with_reducible repeat (first | refine bN ?_ _ | refine bD ?_ | refine bA ?_ _)); exact BK385.out) hb); have n6_ := aM (bS3 HB.out hb); clear BK357; clear BK363; clear BK372; clear BK373; clear BK382; clear BK385; clear HB; have BK357 := n0_; have BK363 := n1_; have BK372 := n2_; have BK373 := n3_; have BK382 := n4_; have BK385 := n5_; have HB := n6_; clear n0_ n1_ n2_ n3_ n4_ n5_ n6_; (try clear hb); (try simp only [errW_none, errW_some])) | ((with_reducible refine gD (N := 17) rfl ?_); refine bE3 17 #[.int .u64 0, .int .u64 0] 24 ?hr ?_; (case hr => first | (go_simp; done) | (go_simp; rfl)); intro gb390 hg w356 hbox hb; have n0_ := aM (bB3 BK357.out hb); have n1_ := aM (bB3 BK363.out hb); have n2_ := aM (bB3 BK372.out hb); have n3_ := aM (bB3 BK373.out hb); have n4_ := aM (bB3 BK382.out hb); have n5_ := aM (bB3 BK385.out hb); have n6_ := aM (bS3 HB.out hb); have n7_ := aM (hbox); have n8_ := aM ((bZ3 hg HB.out)); have n9_ := aM ((bZ3 hg HB.out)); have n10_ := aM ((bL3 hg BK357.out)); have n11_ := aM ((bG3 hg BK357.out)); have n12_ := aM ((bL3 hg BK363.out)); have n13_ := aM ((bG3 hg BK363.out)); have n14_ := aM ((bL3 hg BK372.out)); have n15_ := aM ((bG3 hg BK372.out)); have n16_ := aM ((bL3 hg BK373.out)); have n17_ := aM ((bG3 hg BK373.out)); have n18_ := aM ((bL3 hg BK382.out)); have n19_ := aM ((bG3 hg BK382.out)); have n20_ := aM ((bL3 hg BK385.out)); have n21_ := aM ((bG3 hg BK385.out)); clear BK357; clear BK363; clear BK372; clear BK373; clear BK382; clear BK385; clear HB; have BK357 := n0_; have BK363 := n1_; have BK372 := n2_; have BK373 := n3_; have BK382 := n4_; have BK385 := n5_; have HB := n6_; have BK390 := n7_; have GW390 := n8_; have GE390 := n9_; have NB357_390 := n10_; have NB390_357 := n11_; have NB363_390 := n12_; have NB390_363 := n13_; have NB372_390 := n14_; have NB390_372 := n15_; have NB373_390 := n16_; have NB390_373 := n17_; have NB382_390 := n18_; have NB390_382 := n19_; have NB385_390 := n20_; have NB390_385 := n21_; clear n0_ n1_ n2_ n3_ n4_ n5_ n6_ n7_ n8_ n9_ n10_ n11_ n12_ n13_ n14_ n15_ n16_ n17_ n18_ n19_ n20_ n21_; clear hb hbox hg; have hnb357 := NB390_357.out; have hnc357 := NB357_390.out; have hnb358 := NB390_363.out; have hnc358 := NB363_390.out; have hnb359 := NB390_372.out; have hnc359 := NB372_390.out; have hnb360 := NB390_373.out; have hnc360 := NB373_390.out; have hnb361 := NB390_382.out; have hnc361 := NB382_390.out; have hnb362 := NB390_385.out; have hnc362 := NB385_390.out; have hcz363_0 := blk_cellL BK390.out 0 _ rfl; have hcz363_1 := blk_cellL BK390.out 1 _ rfl; have hfz363_0 := bF BK390.out 0; have hfz363_1 := bF BK390.out 1; have hcz364_0 := blk_cellL BK385.out 0 _ rfl; have hcz364_1 := blk_cellL BK385.out 1 _ rfl; have hfz364_0 := bF BK385.out 0; have hfz364_1 := bF BK385.out 1) | ((with_reducible refine gC (f := 13) rfl ?_); refine gY (some 135) Try.func13 #[.agg #[.int .u64 t386, .int .u64 t387], .agg #[.int .u64 t383, .int .u64 t384]] ?_; (with_reducible refine (twin_Add.calls t386 t387 t383 t384 t391 t392 false _ A225.out).mono ?_); rintro e w365 ⟨rfl, hb⟩; refine ⟨_, rfl, ?_⟩; have n0_ := aM (bB (g := gb357) (o := .cells #[.int .u64 a0_0, .int .u64 a0_1] 24 (0, 0)) (by (with_reducible repeat (first | refine bN ?_ _ | refine bD ?_ | refine bA ?_ _)); refine blk_far ?_ NB357_390.out _; (with_reducible repeat (first | refine bN ?_ _ | refine bD ?_ | refine bA ?_ _)); refine blk_far ?_ NB357_390.out _; (with_reducible repeat (first | refine bN ?_ _ | refine bD ?_ | refine bA ?_ _)); exact BK357.out) hb); have n1_ := aM (bB (g := gb363) (o := .cells #[.int .u64 t359, .int .u64 t360] 24 (0, 0)) (by (with_reducible repeat (first | refine bN ?_ _ | refine bD ?_ | refine bA ?_ _)); refine blk_far ?_ NB363_390.out _; (with_reducible repeat (first | refine bN ?_ _ | refine bD ?_ | refine bA ?_ _)); refine blk_far ?_ NB363_390.out _; (with_reducible repeat (first | refine bN ?_ _ | refine bD ?_ | refine bA ?_ _)); exact BK363.out) hb); have n2_ := aM (bB (g := gb372) (o := .cells #[.int .u64 t367, .int .u64 t368] 24 (0, 0)) (by (with_reducible repeat (first | refine bN ?_ _ | refine bD ?_ | refine bA ?_ _)); refine blk_far ?_ NB372_390.out _; (with_reducible repeat (first | refine bN ?_ _ | refine bD ?_ | refine bA ?_ _)); refine blk_far ?_ NB372_390.out _; (with_reducible repeat (first | refine bN ?_ _ | refine bD ?_ | refine bA ?_ _)); exact BK372.out) hb); have n3_ := aM (bB (g := gb373) (o := .cells #[.int .u64 t369, .int .u64 t370] 24 (0, 0)) (by (with_reducible repeat (first | refine bN ?_ _ | refine bD ?_ | refine bA ?_ _)); refine blk_far ?_ NB373_390.out _; (with_reducible repeat (first | refine bN ?_ _ | refine bD ?_ | refine bA ?_ _)); refine blk_far ?_ NB373_390.out _; (with_reducible repeat (first | refine bN ?_ _ | refine bD ?_ | refine bA ?_ _)); exact BK373.out) hb); have n4_ := aM (bB (g := gb382) (o := .cells #[.int .u64 t380, .int .u64 t381] 24 (0, 0)) (by (with_reducible repeat (first | refine bN ?_ _ | refine bD ?_ | refine bA ?_ _)); refine blk_far ?_ NB382_390.out _; (with_reducible repeat (first | refine bN ?_ _ | refine bD ?_ | refine bA ?_ _)); refine blk_far ?_ NB382_390.out _; (with_reducible repeat (first | refine bN ?_ _ | refine bD ?_ | refine bA ?_ _)); exact BK382.out) hb); have n5_ := aM (bB (g := gb385) (o := .cells #[.int .u64 t383, .int .u64 t384] 24 (0, 0)) (by (with_reducible repeat (first | refine bN ?_ _ | refine bD ?_ | refine bA ?_ _)); refine blk_far ?_ NB385_390.out _; (with_reducible repeat (first | refine bN ?_ _ | refine bD ?_ | refine bA ?_ _)); refine blk_far ?_ NB385_390.out _; (with_reducible repeat (first | refine bN ?_ _ | refine bD ?_ | refine bA ?_ _)); exact BK385.out) hb); have n6_ := aM (bB (g := gb390) (o := .cells #[.int .u64 t386, .int .u64 t387] 24 (0, 0)) (by (with_reducible repeat (first | refine bN ?_ _ | refine bD ?_ | refine bA ?_ _)); refine blk_put (cs := #[.int .u64 t386, .int .u64 0]) ?_ 1 _ rfl; (with_reducible repeat (first | refine bN ?_ _ | refine bD ?_ | refine bA ?_ _)); refine blk_put (cs := #[.int .u64 0, .int .u64 0]) ?_ 0 _ rfl; (with_reducible repeat (first | refine bN ?_ _ | refine bD ?_ | refine bA ?_ _)); exact BK390.out) hb); have n7_ := aM (bS3 HB.out hb); clear BK357; clear BK363; clear BK372; clear BK373; clear BK382; clear BK385; clear BK390; clear HB; have BK357 := n0_; have BK363 := n1_; have BK372 := n2_; have BK373 := n3_; have BK382 := n4_; have BK385 := n5_; have BK390 := n6_; have HB := n7_; clear n0_ n1_ n2_ n3_ n4_ n5_ n6_ n7_; (try clear hb)) | ((with_reducible refine gD (N := 20) rfl ?_); refine bE3 20 #[.int .u64 0, .int .u64 0] 24 ?hr ?_; (case hr => first | (go_simp; done) | (go_simp; rfl)); intro gb394 hg w366 hbox hb; have n0_ := aM (bB3 BK357.out hb); have n1_ := aM (bB3 BK363.out hb); have n2_ := aM (bB3 BK372.out hb); have n3_ := aM (bB3 BK373.out hb); have n4_ := aM (bB3 BK382.out hb); have n5_ := aM (bB3 BK385.out hb); have n6_ := aM (bB3 BK390.out hb); have n7_ := aM (bS3 HB.out hb); have n8_ := aM (hbox); have n9_ := aM ((bZ3 hg HB.out)); have n10_ := aM ((bZ3 hg HB.out)); have n11_ := aM ((bL3 hg BK357.out)); have n12_ := aM ((bG3 hg BK357.out)); have n13_ := aM ((bL3 hg BK363.out)); have n14_ := aM ((bG3 hg BK363.out)); have n15_ := aM ((bL3 hg BK372.out)); have n16_ := aM ((bG3 hg BK372.out)); have n17_ := aM ((bL3 hg BK373.out)); have n18_ := aM ((bG3 hg BK373.out)); have n19_ := aM ((bL3 hg BK382.out)); have n20_ := aM ((bG3 hg BK382.out)); have n21_ := aM ((bL3 hg BK385.out)); have n22_ := aM ((bG3 hg BK385.out)); have n23_ := aM ((bL3 hg BK390.out)); have n24_ := aM ((bG3 hg BK390.out)); clear BK357; clear BK363; clear BK372; clear BK373; clear BK382; clear BK385; clear BK390; clear HB; have BK357 := n0_; have BK363 := n1_; have BK372 := n2_; have BK373 := n3_; have BK382 := n4_; have BK385 := n5_; have BK390 := n6_; have HB := n7_; have BK394 := n8_; have GW394 := n9_; have GE394 := n10_; have NB357_394 := n11_; have NB394_357 := n12_; have NB363_394 := n13_; have NB394_363 := n14_; have NB372_394 := n15_; have NB394_372 := n16_; have NB373_394 := n17_; have NB394_373 := n18_; have NB382_394 := n19_; have NB394_382 := n20_; have NB385_394 := n21_; have NB394_385 := n22_; have NB390_394 := n23_; have NB394_390 := n24_; clear n0_ n1_ n2_ n3_ n4_ n5_ n6_ n7_ n8_ n9_ n10_ n11_ n12_ n13_ n14_ n15_ n16_ n17_ n18_ n19_ n20_ n21_ n22_ n23_ n24_; clear hb hbox hg; have hnb367 := NB394_357.out; have hnc367 := NB357_394.out; have hnb368 := NB394_363.out; have hnc368 := NB363_394.out; have hnb369 := NB394_372.out; have hnc369 := NB372_394.out; have hnb370 := NB394_373.out; have hnc370 := NB373_394.out; have hnb371 := NB394_382.out; have hnc371 := NB382_394.out; have hnb372 := NB394_385.out; have hnc372 := NB385_394.out; have hnb373 := NB394_390.out; have hnc373 := NB390_394.out; have hcz374_0 := blk_cellL BK394.out 0 _ rfl; have hcz374_1 := blk_cellL BK394.out 1 _ rfl; have hfz374_0 := bF BK394.out 0; have hfz374_1 := bF BK394.out 1) | ((with_reducible refine gC (f := 13) rfl ?_); refine gY (some 142) Try.func13 #[.agg #[.int .u64 t391, .int .u64 t392], .agg #[.int .u64 0, .int .u64 t361]] ?_; (with_reducible refine (twin_Add.calls t391 t392 0 t361 t395 t396 true _ A226.out).mono ?_); rintro e w375 ⟨rfl, hb⟩; refine ⟨_, rfl, ?_⟩; have n0_ := aM (bB (g := gb357) (o := .cells #[.int .u64 a0_0, .int .u64 a0_1] 24 (0, 0)) (by (with_reducible repeat (first | refine bN ?_ _ | refine bD ?_ | refine bA ?_ _)); refine blk_far ?_ NB357_394.out _; (with_reducible repeat (first | refine bN ?_ _ | refine bD ?_ | refine bA ?_ _)); refine blk_far ?_ NB357_394.out _; (with_reducible repeat (first | refine bN ?_ _ | refine bD ?_ | refine bA ?_ _)); exact BK357.out) hb); have n1_ := aM (bB (g := gb363) (o := .cells #[.int .u64 t359, .int .u64 t360] 24 (0, 0)) (by (with_reducible repeat (first | refine bN ?_ _ | refine bD ?_ | refine bA ?_ _)); refine blk_far ?_ NB363_394.out _; (with_reducible repeat (first | refine bN ?_ _ | refine bD ?_ | refine bA ?_ _)); refine blk_far ?_ NB363_394.out _; (with_reducible repeat (first | refine bN ?_ _ | refine bD ?_ | refine bA ?_ _)); exact BK363.out) hb); have n2_ := aM (bB (g := gb372) (o := .cells #[.int .u64 t367, .int .u64 t368] 24 (0, 0)) (by (with_reducible repeat (first | refine bN ?_ _ | refine bD ?_ | refine bA ?_ _)); refine blk_far ?_ NB372_394.out _; (with_reducible repeat (first | refine bN ?_ _ | refine bD ?_ | refine bA ?_ _)); refine blk_far ?_ NB372_394.out _; (with_reducible repeat (first | refine bN ?_ _ | refine bD ?_ | refine bA ?_ _)); exact BK372.out) hb); have n3_ := aM (bB (g := gb373) (o := .cells #[.int .u64 t369, .int .u64 t370] 24 (0, 0)) (by (with_reducible repeat (first | refine bN ?_ _ | refine bD ?_ | refine bA ?_ _)); refine blk_far ?_ NB373_394.out _; (with_reducible repeat (first | refine bN ?_ _ | refine bD ?_ | refine bA ?_ _)); refine blk_far ?_ NB373_394.out _; (with_reducible repeat (first | refine bN ?_ _ | refine bD ?_ | refine bA ?_ _)); exact BK373.out) hb); have n4_ := aM (bB (g := gb382) (o := .cells #[.int .u64 t380, .int .u64 t381] 24 (0, 0)) (by (with_reducible repeat (first | refine bN ?_ _ | refine bD ?_ | refine bA ?_ _)); refine blk_far ?_ NB382_394.out _; (with_reducible repeat (first | refine bN ?_ _ | refine bD ?_ | refine bA ?_ _)); refine blk_far ?_ NB382_394.out _; (with_reducible repeat (first | refine bN ?_ _ | refine bD ?_ | refine bA ?_ _)); exact BK382.out) hb); have n5_ := aM (bB (g := gb385) (o := .cells #[.int .u64 t383, .int .u64 t384] 24 (0, 0)) (by (with_reducible repeat (first | refine bN ?_ _ | refine bD ?_ | refine bA ?_ _)); refine blk_far ?_ NB385_394.out _; (with_reducible repeat (first | refine bN ?_ _ | refine bD ?_ | refine bA ?_ _)); refine blk_far ?_ NB385_394.out _; (with_reducible repeat (first | refine bN ?_ _ | refine bD ?_ | refine bA ?_ _)); exact BK385.out) hb); have n6_ := aM (bB (g := gb390) (o := .cells #[.int .u64 t386, .int .u64 t387] 24 (0, 0)) (by (with_reducible repeat (first | refine bN ?_ _ | refine bD ?_ | refine bA ?_ _)); refine blk_far ?_ NB390_394.out _; (with_reducible repeat (first | refine bN ?_ _ | refine bD ?_ | refine bA ?_ _)); refine blk_far ?_ NB390_394.out _; (with_reducible repeat (first | refine bN ?_ _ | refine bD ?_ | refine bA ?_ _)); exact BK390.out) hb); have n7_ := aM (bB (g := gb394) (o := .cells #[.int .u64 t391, .int .u64 t392] 24 (0, 0)) (by (with_reducible repeat (first | refine bN ?_ _ | refine bD ?_ | refine bA ?_ _)); refine blk_put (cs := #[.int .u64 t391, .int .u64 0]) ?_ 1 _ rfl; (with_reducible repeat (first | refine bN ?_ _ | refine bD ?_ | refine bA ?_ _)); refine blk_put (cs := #[.int .u64 0, .int .u64 0]) ?_ 0 _ rfl; (with_reducible repeat (first | refine bN ?_ _ | refine bD ?_ | refine bA ?_ _)); exact BK394.out) hb); have n8_ := aM (bS3 HB.out hb); clear BK357; clear BK363; clear BK372; clear BK373; clear BK382; clear BK385; clear BK390; clear BK394; clear HB; have BK357 := n0_; have BK363 := n1_; have BK372 := n2_; have BK373 := n3_; have BK382 := n4_; have BK385 := n5_; have BK390 := n6_; have BK394 := n7_; have HB := n8_; clear n0_ n1_ n2_ n3_ n4_ n5_ n6_ n7_ n8_; (try clear hb)) | ((with_reducible refine gD (N := 22) rfl ?_); refine bE3 22 #[.int .u64 0, .int .u64 0] 24 ?hr ?_; (case hr => first | (go_simp; done) | (go_simp; rfl)); intro gb398 hg w376 hbox hb; have n0_ := aM (bB3 BK357.out hb); have n1_ := aM (bB3 BK363.out hb); have n2_ := aM (bB3 BK372.out hb); have n3_ := aM (bB3 BK373.out hb); have n4_ := aM (bB3 BK382.out hb); have n5_ := aM (bB3 BK385.out hb); have n6_ := aM (bB3 BK390.out hb); have n7_ := aM (bB3 BK394.out hb); have n8_ := aM (bS3 HB.out hb); have n9_ := aM (hbox); have n10_ := aM ((bZ3 hg HB.out)); have n11_ := aM ((bZ3 hg HB.out)); have n12_ := aM ((bL3 hg BK357.out)); have n13_ := aM ((bG3 hg BK357.out)); have n14_ := aM ((bL3 hg BK363.out)); have n15_ := aM ((bG3 hg BK363.out)); have n16_ := aM ((bL3 hg BK372.out)); have n17_ := aM ((bG3 hg BK372.out)); have n18_ := aM ((bL3 hg BK373.out)); have n19_ := aM ((bG3 hg BK373.out)); have n20_ := aM ((bL3 hg BK382.out)); have n21_ := aM ((bG3 hg BK382.out)); have n22_ := aM ((bL3 hg BK385.out)); have n23_ := aM ((bG3 hg BK385.out)); have n24_ := aM ((bL3 hg BK390.out)); have n25_ := aM ((bG3 hg BK390.out)); have n26_ := aM ((bL3 hg BK394.out)); have n27_ := aM ((bG3 hg BK394.out)); clear BK357; clear BK363; clear BK372; clear BK373; clear BK382; clear BK385; clear BK390; clear BK394; clear HB; have BK357 := n0_; have BK363 := n1_; have BK372 := n2_; have BK373 := n3_; have BK382 := n4_; have BK385 := n5_; have BK390 := n6_; have BK394 := n7_; have HB := n8_; have BK398 := n9_; have GW398 := n10_; have GE398 := n11_; have NB357_398 := n12_; have NB398_357 := n13_; have NB363_398 := n14_; have NB398_363 := n15_; have NB372_398 := n16_; have NB398_372 := n17_; have NB373_398 := n18_; have NB398_373 := n19_; have NB382_398 := n20_; have NB398_382 := n21_; have NB385_398 := n22_; have NB398_385 := n23_; have NB390_398 := n24_; have NB398_390 := n25_; have NB394_398 := n26_; have NB398_394 := n27_; clear n0_ n1_ n2_ n3_ n4_ n5_ n6_ n7_ n8_ n9_ n10_ n11_ n12_ n13_ n14_ n15_ n16_ n17_ n18_ n19_ n20_ n21_ n22_ n23_ n24_ n25_ n26_ n27_; clear hb hbox hg; have hnb377 := NB398_357.out; have hnc377 := NB357_398.out; have hnb378 := NB398_363.out; have hnc378 := NB363_398.out; have hnb379 := NB398_372.out; have hnc379 := NB372_398.out; have hnb380 := NB398_373.out; have hnc380 := NB373_398.out; have hnb381 := NB398_382.out; have hnc381 := NB382_398.out; have hnb382 := NB398_385.out; have hnc382 := NB385_398.out; have hnb383 := NB398_390.out; have hnc383 := NB390_398.out; have hnb384 := NB398_394.out; have hnc384 := NB394_398.out; have hcz385_0 := blk_cellL BK398.out 0 _ rfl; have hcz385_1 := blk_cellL BK398.out 1 _ rfl; have hfz385_0 := bF BK398.out 0; have hfz385_1 := bF BK398.out 1))
                        go_ret
                        exact ⟨by first | rfl | (simp [errW_none, errW_some] <;> rfl) | (simp [*, errW_none, errW_some] <;> rfl), by repeat (first | (with_reducible first | exact HB.out | apply pA | apply pN | apply p1 | refine pS ?_ GE357.out | refine pS ?_ GE363.out | refine pS ?_ GE372.out | refine pS ?_ GE373.out | refine pS ?_ GE382.out | refine pS ?_ GE385.out | refine pS ?_ GE390.out | refine pS ?_ GE394.out | refine pS ?_ GE398.out) | exact HB.out)⟩
                      · replace c333 := Bool.eq_false_iff.mpr c333
                        subst c333
                        have H1 : (some (t395 == a0_0 && (t396 == a0_1))) = some r := by rw [if_neg (show ¬ (false = true) by decide)] at H; exact H
                        clear H
                        have H := H1
                        clear H1
                        obtain rfl := Option.some.inj H
                        have hnb386 := NB363_357.out
                        have hnc386 := NB357_363.out
                        have hnb387 := NB363_372.out
                        have hnc387 := NB372_363.out
                        have hnb388 := NB363_373.out
                        have hnc388 := NB373_363.out
                        have hcz389_0 := blk_cellL BK363.out 0 _ rfl
                        have hcz389_1 := blk_cellL BK363.out 1 _ rfl
                        have hfz389_0 := bF BK363.out 0
                        have hfz389_1 := bF BK363.out 1
                        go_wp2_with (first | ((with_reducible refine gC (f := 11) rfl ?_); refine gY (some 121) Try.func11 #[.int .u64 t359, .int .u64 a1] ?_; (with_reducible refine (twin_Mul.calls t359 a1 t380 t381 _ A222.out).mono ?_); rintro e w390 ⟨rfl, hb⟩; refine ⟨_, rfl, ?_⟩; have n0_ := aM (bB3 BK357.out hb); have n1_ := aM (bB3 BK363.out hb); have n2_ := aM (bB3 BK372.out hb); have n3_ := aM (bB3 BK373.out hb); have n4_ := aM (bS3 HB.out hb); clear BK357; clear BK363; clear BK372; clear BK373; clear HB; have BK357 := n0_; have BK363 := n1_; have BK372 := n2_; have BK373 := n3_; have HB := n4_; clear n0_ n1_ n2_ n3_ n4_; (try clear hb)) | ((with_reducible refine gD (N := 15) rfl ?_); refine bE3 15 #[.int .u64 0, .int .u64 0] 24 ?hr ?_; (case hr => first | (go_simp; done) | (go_simp; rfl)); intro gb382 hg w391 hbox hb; have n0_ := aM (bB3 BK357.out hb); have n1_ := aM (bB3 BK363.out hb); have n2_ := aM (bB3 BK372.out hb); have n3_ := aM (bB3 BK373.out hb); have n4_ := aM (bS3 HB.out hb); have n5_ := aM (hbox); have n6_ := aM ((bZ3 hg HB.out)); have n7_ := aM ((bZ3 hg HB.out)); have n8_ := aM ((bL3 hg BK357.out)); have n9_ := aM ((bG3 hg BK357.out)); have n10_ := aM ((bL3 hg BK363.out)); have n11_ := aM ((bG3 hg BK363.out)); have n12_ := aM ((bL3 hg BK372.out)); have n13_ := aM ((bG3 hg BK372.out)); have n14_ := aM ((bL3 hg BK373.out)); have n15_ := aM ((bG3 hg BK373.out)); clear BK357; clear BK363; clear BK372; clear BK373; clear HB; have BK357 := n0_; have BK363 := n1_; have BK372 := n2_; have BK373 := n3_; have HB := n4_; have BK382 := n5_; have GW382 := n6_; have GE382 := n7_; have NB357_382 := n8_; have NB382_357 := n9_; have NB363_382 := n10_; have NB382_363 := n11_; have NB372_382 := n12_; have NB382_372 := n13_; have NB373_382 := n14_; have NB382_373 := n15_; clear n0_ n1_ n2_ n3_ n4_ n5_ n6_ n7_ n8_ n9_ n10_ n11_ n12_ n13_ n14_ n15_; clear hb hbox hg; have hnb392 := NB382_357.out; have hnc392 := NB357_382.out; have hnb393 := NB382_363.out; have hnc393 := NB363_382.out; have hnb394 := NB382_372.out; have hnc394 := NB372_382.out; have hnb395 := NB382_373.out; have hnc395 := NB373_382.out; have hcz396_0 := blk_cellL BK382.out 0 _ rfl; have hcz396_1 := blk_cellL BK382.out 1 _ rfl; have hfz396_0 := bF BK382.out 0; have hfz396_1 := bF BK382.out 1; have hcz397_0 := blk_cellL BK363.out 0 _ rfl; have hcz397_1 := blk_cellL BK363.out 1 _ rfl; have hfz397_0 := bF BK363.out 0; have hfz397_1 := bF BK363.out 1) | ((with_reducible refine gC (f := 11) rfl ?_); refine gY (some 125) Try.func11 #[.int .u64 t360, .int .u64 a1] ?_; (with_reducible refine (twin_Mul.calls t360 a1 t383 t384 _ A223.out).mono ?_); rintro e w398 ⟨rfl, hb⟩; refine ⟨_, rfl, ?_⟩; have n0_ := aM (bB (g := gb357) (o := .cells #[.int .u64 a0_0, .int .u64 a0_1] 24 (0, 0)) (by (with_reducible repeat (first | refine bN ?_ _ | refine bD ?_ | refine bA ?_ _)); refine blk_far ?_ NB357_382.out _; (with_reducible repeat (first | refine bN ?_ _ | refine bD ?_ | refine bA ?_ _)); refine blk_far ?_ NB357_382.out _; (with_reducible repeat (first | refine bN ?_ _ | refine bD ?_ | refine bA ?_ _)); exact BK357.out) hb); have n1_ := aM (bB (g := gb363) (o := .cells #[.int .u64 t359, .int .u64 t360] 24 (0, 0)) (by (with_reducible repeat (first | refine bN ?_ _ | refine bD ?_ | refine bA ?_ _)); refine blk_far ?_ NB363_382.out _; (with_reducible repeat (first | refine bN ?_ _ | refine bD ?_ | refine bA ?_ _)); refine blk_far ?_ NB363_382.out _; (with_reducible repeat (first | refine bN ?_ _ | refine bD ?_ | refine bA ?_ _)); exact BK363.out) hb); have n2_ := aM (bB (g := gb372) (o := .cells #[.int .u64 t367, .int .u64 t368] 24 (0, 0)) (by (with_reducible repeat (first | refine bN ?_ _ | refine bD ?_ | refine bA ?_ _)); refine blk_far ?_ NB372_382.out _; (with_reducible repeat (first | refine bN ?_ _ | refine bD ?_ | refine bA ?_ _)); refine blk_far ?_ NB372_382.out _; (with_reducible repeat (first | refine bN ?_ _ | refine bD ?_ | refine bA ?_ _)); exact BK372.out) hb); have n3_ := aM (bB (g := gb373) (o := .cells #[.int .u64 t369, .int .u64 t370] 24 (0, 0)) (by (with_reducible repeat (first | refine bN ?_ _ | refine bD ?_ | refine bA ?_ _)); refine blk_far ?_ NB373_382.out _; (with_reducible repeat (first | refine bN ?_ _ | refine bD ?_ | refine bA ?_ _)); refine blk_far ?_ NB373_382.out _; (with_reducible repeat (first | refine bN ?_ _ | refine bD ?_ | refine bA ?_ _)); exact BK373.out) hb); have n4_ := aM (bB (g := gb382) (o := .cells #[.int .u64 t380, .int .u64 t381] 24 (0, 0)) (by (with_reducible repeat (first | refine bN ?_ _ | refine bD ?_ | refine bA ?_ _)); refine blk_put (cs := #[.int .u64 t380, .int .u64 0]) ?_ 1 _ rfl; (with_reducible repeat (first | refine bN ?_ _ | refine bD ?_ | refine bA ?_ _)); refine blk_put (cs := #[.int .u64 0, .int .u64 0]) ?_ 0 _ rfl; (with_reducible repeat (first | refine bN ?_ _ | refine bD ?_ | refine bA ?_ _)); exact BK382.out) hb); have n5_ := aM (bS3 HB.out hb); clear BK357; clear BK363; clear BK372; clear BK373; clear BK382; clear HB; have BK357 := n0_; have BK363 := n1_; have BK372 := n2_; have BK373 := n3_; have BK382 := n4_; have HB := n5_; clear n0_ n1_ n2_ n3_ n4_ n5_; (try clear hb)) | ((with_reducible refine gD (N := 16) rfl ?_); refine bE3 16 #[.int .u64 0, .int .u64 0] 24 ?hr ?_; (case hr => first | (go_simp; done) | (go_simp; rfl)); intro gb385 hg w399 hbox hb; have n0_ := aM (bB3 BK357.out hb); have n1_ := aM (bB3 BK363.out hb); have n2_ := aM (bB3 BK372.out hb); have n3_ := aM (bB3 BK373.out hb); have n4_ := aM (bB3 BK382.out hb); have n5_ := aM (bS3 HB.out hb); have n6_ := aM (hbox); have n7_ := aM ((bZ3 hg HB.out)); have n8_ := aM ((bZ3 hg HB.out)); have n9_ := aM ((bL3 hg BK357.out)); have n10_ := aM ((bG3 hg BK357.out)); have n11_ := aM ((bL3 hg BK363.out)); have n12_ := aM ((bG3 hg BK363.out)); have n13_ := aM ((bL3 hg BK372.out)); have n14_ := aM ((bG3 hg BK372.out)); have n15_ := aM ((bL3 hg BK373.out)); have n16_ := aM ((bG3 hg BK373.out)); have n17_ := aM ((bL3 hg BK382.out)); have n18_ := aM ((bG3 hg BK382.out)); clear BK357; clear BK363; clear BK372; clear BK373; clear BK382; clear HB; have BK357 := n0_; have BK363 := n1_; have BK372 := n2_; have BK373 := n3_; have BK382 := n4_; have HB := n5_; have BK385 := n6_; have GW385 := n7_; have GE385 := n8_; have NB357_385 := n9_; have NB385_357 := n10_; have NB363_385 := n11_; have NB385_363 := n12_; have NB372_385 := n13_; have NB385_372 := n14_; have NB373_385 := n15_; have NB385_373 := n16_; have NB382_385 := n17_; have NB385_382 := n18_; clear n0_ n1_ n2_ n3_ n4_ n5_ n6_ n7_ n8_ n9_ n10_ n11_ n12_ n13_ n14_ n15_ n16_ n17_ n18_; clear hb hbox hg; have hnb400 := NB385_357.out; have hnc400 := NB357_385.out; have hnb401 := NB385_363.out; have hnc401 := NB363_385.out; have hnb402 := NB385_372.out; have hnc402 := NB372_385.out; have hnb403 := NB385_373.out; have hnc403 := NB373_385.out; have hnb404 := NB385_382.out; have hnc404 := NB382_385.out; have hcz405_0 := blk_cellL BK385.out 0 _ rfl; have hcz405_1 := blk_cellL BK385.out 1 _ rfl; have hfz405_0 := bF BK385.out 0; have hfz405_1 := bF BK385.out 1; have hcz406_0 := blk_cellL BK382.out 0 _ rfl; have hcz406_1 := blk_cellL BK382.out 1 _ rfl; have hfz406_0 := bF BK382.out 0; have hfz406_1 := bF BK382.out 1) | ((with_reducible refine gC (f := 12) rfl ?_); refine gY (some 128) Try.func12 #[.agg #[.int .u64 t380, .int .u64 t381], .int .i64 64] ?_; (with_reducible refine (twin_Shl.calls kj200 t380 t381 64 t386 t387 false none _ A224.out).mono ?_); rintro e w407 ⟨rfl, hb⟩; refine ⟨_, rfl, ?_⟩; have n0_ := aM (bB (g := gb357) (o := .cells #[.int .u64 a0_0, .int .u64 a0_1] 24 (0, 0)) (by (with_reducible repeat (first | refine bN ?_ _ | refine bD ?_ | refine bA ?_ _)); refine blk_far ?_ NB357_385.out _; (with_reducible repeat (first | refine bN ?_ _ | refine bD ?_ | refine bA ?_ _)); refine blk_far ?_ NB357_385.out _; (with_reducible repeat (first | refine bN ?_ _ | refine bD ?_ | refine bA ?_ _)); exact BK357.out) hb); have n1_ := aM (bB (g := gb363) (o := .cells #[.int .u64 t359, .int .u64 t360] 24 (0, 0)) (by (with_reducible repeat (first | refine bN ?_ _ | refine bD ?_ | refine bA ?_ _)); refine blk_far ?_ NB363_385.out _; (with_reducible repeat (first | refine bN ?_ _ | refine bD ?_ | refine bA ?_ _)); refine blk_far ?_ NB363_385.out _; (with_reducible repeat (first | refine bN ?_ _ | refine bD ?_ | refine bA ?_ _)); exact BK363.out) hb); have n2_ := aM (bB (g := gb372) (o := .cells #[.int .u64 t367, .int .u64 t368] 24 (0, 0)) (by (with_reducible repeat (first | refine bN ?_ _ | refine bD ?_ | refine bA ?_ _)); refine blk_far ?_ NB372_385.out _; (with_reducible repeat (first | refine bN ?_ _ | refine bD ?_ | refine bA ?_ _)); refine blk_far ?_ NB372_385.out _; (with_reducible repeat (first | refine bN ?_ _ | refine bD ?_ | refine bA ?_ _)); exact BK372.out) hb); have n3_ := aM (bB (g := gb373) (o := .cells #[.int .u64 t369, .int .u64 t370] 24 (0, 0)) (by (with_reducible repeat (first | refine bN ?_ _ | refine bD ?_ | refine bA ?_ _)); refine blk_far ?_ NB373_385.out _; (with_reducible repeat (first | refine bN ?_ _ | refine bD ?_ | refine bA ?_ _)); refine blk_far ?_ NB373_385.out _; (with_reducible repeat (first | refine bN ?_ _ | refine bD ?_ | refine bA ?_ _)); exact BK373.out) hb); have n4_ := aM (bB (g := gb382) (o := .cells #[.int .u64 t380, .int .u64 t381] 24 (0, 0)) (by (with_reducible repeat (first | refine bN ?_ _ | refine bD ?_ | refine bA ?_ _)); refine blk_far ?_ NB382_385.out _; (with_reducible repeat (first | refine bN ?_ _ | refine bD ?_ | refine bA ?_ _)); refine blk_far ?_ NB382_385.out _; (with_reducible repeat (first | refine bN ?_ _ | refine bD ?_ | refine bA ?_ _)); exact BK382.out) hb); have n5_ := aM (bB (g := gb385) (o := .cells #[.int .u64 t383, .int .u64 t384] 24 (0, 0)) (by (with_reducible repeat (first | refine bN ?_ _ | refine bD ?_ | refine bA ?_ _)); refine blk_put (cs := #[.int .u64 t383, .int .u64 0]) ?_ 1 _ rfl; (with_reducible repeat (first | refine bN ?_ _ | refine bD ?_ | refine bA ?_ _)); refine blk_put (cs := #[.int .u64 0, .int .u64 0]) ?_ 0 _ rfl; (with_reducible repeat (first | refine bN ?_ _ | refine bD ?_ | refine bA ?_ _)); exact BK385.out) hb); have n6_ := aM (bS3 HB.out hb); clear BK357; clear BK363; clear BK372; clear BK373; clear BK382; clear BK385; clear HB; have BK357 := n0_; have BK363 := n1_; have BK372 := n2_; have BK373 := n3_; have BK382 := n4_; have BK385 := n5_; have HB := n6_; clear n0_ n1_ n2_ n3_ n4_ n5_ n6_; (try clear hb); (try simp only [errW_none, errW_some])) | ((with_reducible refine gD (N := 17) rfl ?_); refine bE3 17 #[.int .u64 0, .int .u64 0] 24 ?hr ?_; (case hr => first | (go_simp; done) | (go_simp; rfl)); intro gb390 hg w408 hbox hb; have n0_ := aM (bB3 BK357.out hb); have n1_ := aM (bB3 BK363.out hb); have n2_ := aM (bB3 BK372.out hb); have n3_ := aM (bB3 BK373.out hb); have n4_ := aM (bB3 BK382.out hb); have n5_ := aM (bB3 BK385.out hb); have n6_ := aM (bS3 HB.out hb); have n7_ := aM (hbox); have n8_ := aM ((bZ3 hg HB.out)); have n9_ := aM ((bZ3 hg HB.out)); have n10_ := aM ((bL3 hg BK357.out)); have n11_ := aM ((bG3 hg BK357.out)); have n12_ := aM ((bL3 hg BK363.out)); have n13_ := aM ((bG3 hg BK363.out)); have n14_ := aM ((bL3 hg BK372.out)); have n15_ := aM ((bG3 hg BK372.out)); have n16_ := aM ((bL3 hg BK373.out)); have n17_ := aM ((bG3 hg BK373.out)); have n18_ := aM ((bL3 hg BK382.out)); have n19_ := aM ((bG3 hg BK382.out)); have n20_ := aM ((bL3 hg BK385.out)); have n21_ := aM ((bG3 hg BK385.out)); clear BK357; clear BK363; clear BK372; clear BK373; clear BK382; clear BK385; clear HB; have BK357 := n0_; have BK363 := n1_; have BK372 := n2_; have BK373 := n3_; have BK382 := n4_; have BK385 := n5_; have HB := n6_; have BK390 := n7_; have GW390 := n8_; have GE390 := n9_; have NB357_390 := n10_; have NB390_357 := n11_; have NB363_390 := n12_; have NB390_363 := n13_; have NB372_390 := n14_; have NB390_372 := n15_; have NB373_390 := n16_; have NB390_373 := n17_; have NB382_390 := n18_; have NB390_382 := n19_; have NB385_390 := n20_; have NB390_385 := n21_; clear n0_ n1_ n2_ n3_ n4_ n5_ n6_ n7_ n8_ n9_ n10_ n11_ n12_ n13_ n14_ n15_ n16_ n17_ n18_ n19_ n20_ n21_; clear hb hbox hg; have hnb409 := NB390_357.out; have hnc409 := NB357_390.out; have hnb410 := NB390_363.out; have hnc410 := NB363_390.out; have hnb411 := NB390_372.out; have hnc411 := NB372_390.out; have hnb412 := NB390_373.out; have hnc412 := NB373_390.out; have hnb413 := NB390_382.out; have hnc413 := NB382_390.out; have hnb414 := NB390_385.out; have hnc414 := NB385_390.out; have hcz415_0 := blk_cellL BK390.out 0 _ rfl; have hcz415_1 := blk_cellL BK390.out 1 _ rfl; have hfz415_0 := bF BK390.out 0; have hfz415_1 := bF BK390.out 1; have hcz416_0 := blk_cellL BK385.out 0 _ rfl; have hcz416_1 := blk_cellL BK385.out 1 _ rfl; have hfz416_0 := bF BK385.out 0; have hfz416_1 := bF BK385.out 1) | ((with_reducible refine gC (f := 13) rfl ?_); refine gY (some 135) Try.func13 #[.agg #[.int .u64 t386, .int .u64 t387], .agg #[.int .u64 t383, .int .u64 t384]] ?_; (with_reducible refine (twin_Add.calls t386 t387 t383 t384 t391 t392 false _ A225.out).mono ?_); rintro e w417 ⟨rfl, hb⟩; refine ⟨_, rfl, ?_⟩; have n0_ := aM (bB (g := gb357) (o := .cells #[.int .u64 a0_0, .int .u64 a0_1] 24 (0, 0)) (by (with_reducible repeat (first | refine bN ?_ _ | refine bD ?_ | refine bA ?_ _)); refine blk_far ?_ NB357_390.out _; (with_reducible repeat (first | refine bN ?_ _ | refine bD ?_ | refine bA ?_ _)); refine blk_far ?_ NB357_390.out _; (with_reducible repeat (first | refine bN ?_ _ | refine bD ?_ | refine bA ?_ _)); exact BK357.out) hb); have n1_ := aM (bB (g := gb363) (o := .cells #[.int .u64 t359, .int .u64 t360] 24 (0, 0)) (by (with_reducible repeat (first | refine bN ?_ _ | refine bD ?_ | refine bA ?_ _)); refine blk_far ?_ NB363_390.out _; (with_reducible repeat (first | refine bN ?_ _ | refine bD ?_ | refine bA ?_ _)); refine blk_far ?_ NB363_390.out _; (with_reducible repeat (first | refine bN ?_ _ | refine bD ?_ | refine bA ?_ _)); exact BK363.out) hb); have n2_ := aM (bB (g := gb372) (o := .cells #[.int .u64 t367, .int .u64 t368] 24 (0, 0)) (by (with_reducible repeat (first | refine bN ?_ _ | refine bD ?_ | refine bA ?_ _)); refine blk_far ?_ NB372_390.out _; (with_reducible repeat (first | refine bN ?_ _ | refine bD ?_ | refine bA ?_ _)); refine blk_far ?_ NB372_390.out _; (with_reducible repeat (first | refine bN ?_ _ | refine bD ?_ | refine bA ?_ _)); exact BK372.out) hb); have n3_ := aM (bB (g := gb373) (o := .cells #[.int .u64 t369, .int .u64 t370] 24 (0, 0)) (by (with_reducible repeat (first | refine bN ?_ _ | refine bD ?_ | refine bA ?_ _)); refine blk_far ?_ NB373_390.out _; (with_reducible repeat (first | refine bN ?_ _ | refine bD ?_ | refine bA ?_ _)); refine blk_far ?_ NB373_390.out _; (with_reducible repeat (first | refine bN ?_ _ | refine bD ?_ | refine bA ?_ _)); exact BK373.out) hb); have n4_ := aM (bB (g := gb382) (o := .cells #[.int .u64 t380, .int .u64 t381] 24 (0, 0)) (by (with_reducible repeat (first | refine bN ?_ _ | refine bD ?_ | refine bA ?_ _)); refine blk_far ?_ NB382_390.out _; (with_reducible repeat (first | refine bN ?_ _ | refine bD ?_ | refine bA ?_ _)); refine blk_far ?_ NB382_390.out _; (with_reducible repeat (first | refine bN ?_ _ | refine bD ?_ | refine bA ?_ _)); exact BK382.out) hb); have n5_ := aM (bB (g := gb385) (o := .cells #[.int .u64 t383, .int .u64 t384] 24 (0, 0)) (by (with_reducible repeat (first | refine bN ?_ _ | refine bD ?_ | refine bA ?_ _)); refine blk_far ?_ NB385_390.out _; (with_reducible repeat (first | refine bN ?_ _ | refine bD ?_ | refine bA ?_ _)); refine blk_far ?_ NB385_390.out _; (with_reducible repeat (first | refine bN ?_ _ | refine bD ?_ | refine bA ?_ _)); exact BK385.out) hb); have n6_ := aM (bB (g := gb390) (o := .cells #[.int .u64 t386, .int .u64 t387] 24 (0, 0)) (by (with_reducible repeat (first | refine bN ?_ _ | refine bD ?_ | refine bA ?_ _)); refine blk_put (cs := #[.int .u64 t386, .int .u64 0]) ?_ 1 _ rfl; (with_reducible repeat (first | refine bN ?_ _ | refine bD ?_ | refine bA ?_ _)); refine blk_put (cs := #[.int .u64 0, .int .u64 0]) ?_ 0 _ rfl; (with_reducible repeat (first | refine bN ?_ _ | refine bD ?_ | refine bA ?_ _)); exact BK390.out) hb); have n7_ := aM (bS3 HB.out hb); clear BK357; clear BK363; clear BK372; clear BK373; clear BK382; clear BK385; clear BK390; clear HB; have BK357 := n0_; have BK363 := n1_; have BK372 := n2_; have BK373 := n3_; have BK382 := n4_; have BK385 := n5_; have BK390 := n6_; have HB := n7_; clear n0_ n1_ n2_ n3_ n4_ n5_ n6_ n7_; (try clear hb)) | ((with_reducible refine gD (N := 20) rfl ?_); refine bE3 20 #[.int .u64 0, .int .u64 0] 24 ?hr ?_; (case hr => first | (go_simp; done) | (go_simp; rfl)); intro gb394 hg w418 hbox hb; have n0_ := aM (bB3 BK357.out hb); have n1_ := aM (bB3 BK363.out hb); have n2_ := aM (bB3 BK372.out hb); have n3_ := aM (bB3 BK373.out hb); have n4_ := aM (bB3 BK382.out hb); have n5_ := aM (bB3 BK385.out hb); have n6_ := aM (bB3 BK390.out hb); have n7_ := aM (bS3 HB.out hb); have n8_ := aM (hbox); have n9_ := aM ((bZ3 hg HB.out)); have n10_ := aM ((bZ3 hg HB.out)); have n11_ := aM ((bL3 hg BK357.out)); have n12_ := aM ((bG3 hg BK357.out)); have n13_ := aM ((bL3 hg BK363.out)); have n14_ := aM ((bG3 hg BK363.out)); have n15_ := aM ((bL3 hg BK372.out)); have n16_ := aM ((bG3 hg BK372.out)); have n17_ := aM ((bL3 hg BK373.out)); have n18_ := aM ((bG3 hg BK373.out)); have n19_ := aM ((bL3 hg BK382.out)); have n20_ := aM ((bG3 hg BK382.out)); have n21_ := aM ((bL3 hg BK385.out)); have n22_ := aM ((bG3 hg BK385.out)); have n23_ := aM ((bL3 hg BK390.out)); have n24_ := aM ((bG3 hg BK390.out)); clear BK357; clear BK363; clear BK372; clear BK373; clear BK382; clear BK385; clear BK390; clear HB; have BK357 := n0_; have BK363 := n1_; have BK372 := n2_; have BK373 := n3_; have BK382 := n4_; have BK385 := n5_; have BK390 := n6_; have HB := n7_; have BK394 := n8_; have GW394 := n9_; have GE394 := n10_; have NB357_394 := n11_; have NB394_357 := n12_; have NB363_394 := n13_; have NB394_363 := n14_; have NB372_394 := n15_; have NB394_372 := n16_; have NB373_394 := n17_; have NB394_373 := n18_; have NB382_394 := n19_; have NB394_382 := n20_; have NB385_394 := n21_; have NB394_385 := n22_; have NB390_394 := n23_; have NB394_390 := n24_; clear n0_ n1_ n2_ n3_ n4_ n5_ n6_ n7_ n8_ n9_ n10_ n11_ n12_ n13_ n14_ n15_ n16_ n17_ n18_ n19_ n20_ n21_ n22_ n23_ n24_; clear hb hbox hg; have hnb419 := NB394_357.out; have hnc419 := NB357_394.out; have hnb420 := NB394_363.out; have hnc420 := NB363_394.out; have hnb421 := NB394_372.out; have hnc421 := NB372_394.out; have hnb422 := NB394_373.out; have hnc422 := NB373_394.out; have hnb423 := NB394_382.out; have hnc423 := NB382_394.out; have hnb424 := NB394_385.out; have hnc424 := NB385_394.out; have hnb425 := NB394_390.out; have hnc425 := NB390_394.out; have hcz426_0 := blk_cellL BK394.out 0 _ rfl; have hcz426_1 := blk_cellL BK394.out 1 _ rfl; have hfz426_0 := bF BK394.out 0; have hfz426_1 := bF BK394.out 1) | ((with_reducible refine gC (f := 13) rfl ?_); refine gY (some 142) Try.func13 #[.agg #[.int .u64 t391, .int .u64 t392], .agg #[.int .u64 0, .int .u64 t361]] ?_; (with_reducible refine (twin_Add.calls t391 t392 0 t361 t395 t396 false _ A226.out).mono ?_); rintro e w427 ⟨rfl, hb⟩; refine ⟨_, rfl, ?_⟩; have n0_ := aM (bB (g := gb357) (o := .cells #[.int .u64 a0_0, .int .u64 a0_1] 24 (0, 0)) (by (with_reducible repeat (first | refine bN ?_ _ | refine bD ?_ | refine bA ?_ _)); refine blk_far ?_ NB357_394.out _; (with_reducible repeat (first | refine bN ?_ _ | refine bD ?_ | refine bA ?_ _)); refine blk_far ?_ NB357_394.out _; (with_reducible repeat (first | refine bN ?_ _ | refine bD ?_ | refine bA ?_ _)); exact BK357.out) hb); have n1_ := aM (bB (g := gb363) (o := .cells #[.int .u64 t359, .int .u64 t360] 24 (0, 0)) (by (with_reducible repeat (first | refine bN ?_ _ | refine bD ?_ | refine bA ?_ _)); refine blk_far ?_ NB363_394.out _; (with_reducible repeat (first | refine bN ?_ _ | refine bD ?_ | refine bA ?_ _)); refine blk_far ?_ NB363_394.out _; (with_reducible repeat (first | refine bN ?_ _ | refine bD ?_ | refine bA ?_ _)); exact BK363.out) hb); have n2_ := aM (bB (g := gb372) (o := .cells #[.int .u64 t367, .int .u64 t368] 24 (0, 0)) (by (with_reducible repeat (first | refine bN ?_ _ | refine bD ?_ | refine bA ?_ _)); refine blk_far ?_ NB372_394.out _; (with_reducible repeat (first | refine bN ?_ _ | refine bD ?_ | refine bA ?_ _)); refine blk_far ?_ NB372_394.out _; (with_reducible repeat (first | refine bN ?_ _ | refine bD ?_ | refine bA ?_ _)); exact BK372.out) hb); have n3_ := aM (bB (g := gb373) (o := .cells #[.int .u64 t369, .int .u64 t370] 24 (0, 0)) (by (with_reducible repeat (first | refine bN ?_ _ | refine bD ?_ | refine bA ?_ _)); refine blk_far ?_ NB373_394.out _; (with_reducible repeat (first | refine bN ?_ _ | refine bD ?_ | refine bA ?_ _)); refine blk_far ?_ NB373_394.out _; (with_reducible repeat (first | refine bN ?_ _ | refine bD ?_ | refine bA ?_ _)); exact BK373.out) hb); have n4_ := aM (bB (g := gb382) (o := .cells #[.int .u64 t380, .int .u64 t381] 24 (0, 0)) (by (with_reducible repeat (first | refine bN ?_ _ | refine bD ?_ | refine bA ?_ _)); refine blk_far ?_ NB382_394.out _; (with_reducible repeat (first | refine bN ?_ _ | refine bD ?_ | refine bA ?_ _)); refine blk_far ?_ NB382_394.out _; (with_reducible repeat (first | refine bN ?_ _ | refine bD ?_ | refine bA ?_ _)); exact BK382.out) hb); have n5_ := aM (bB (g := gb385) (o := .cells #[.int .u64 t383, .int .u64 t384] 24 (0, 0)) (by (with_reducible repeat (first | refine bN ?_ _ | refine bD ?_ | refine bA ?_ _)); refine blk_far ?_ NB385_394.out _; (with_reducible repeat (first | refine bN ?_ _ | refine bD ?_ | refine bA ?_ _)); refine blk_far ?_ NB385_394.out _; (with_reducible repeat (first | refine bN ?_ _ | refine bD ?_ | refine bA ?_ _)); exact BK385.out) hb); have n6_ := aM (bB (g := gb390) (o := .cells #[.int .u64 t386, .int .u64 t387] 24 (0, 0)) (by (with_reducible repeat (first | refine bN ?_ _ | refine bD ?_ | refine bA ?_ _)); refine blk_far ?_ NB390_394.out _; (with_reducible repeat (first | refine bN ?_ _ | refine bD ?_ | refine bA ?_ _)); refine blk_far ?_ NB390_394.out _; (with_reducible repeat (first | refine bN ?_ _ | refine bD ?_ | refine bA ?_ _)); exact BK390.out) hb); have n7_ := aM (bB (g := gb394) (o := .cells #[.int .u64 t391, .int .u64 t392] 24 (0, 0)) (by (with_reducible repeat (first | refine bN ?_ _ | refine bD ?_ | refine bA ?_ _)); refine blk_put (cs := #[.int .u64 t391, .int .u64 0]) ?_ 1 _ rfl; (with_reducible repeat (first | refine bN ?_ _ | refine bD ?_ | refine bA ?_ _)); refine blk_put (cs := #[.int .u64 0, .int .u64 0]) ?_ 0 _ rfl; (with_reducible repeat (first | refine bN ?_ _ | refine bD ?_ | refine bA ?_ _)); exact BK394.out) hb); have n8_ := aM (bS3 HB.out hb); clear BK357; clear BK363; clear BK372; clear BK373; clear BK382; clear BK385; clear BK390; clear BK394; clear HB; have BK357 := n0_; have BK363 := n1_; have BK372 := n2_; have BK373 := n3_; have BK382 := n4_; have BK385 := n5_; have BK390 := n6_; have BK394 := n7_; have HB := n8_; clear n0_ n1_ n2_ n3_ n4_ n5_ n6_ n7_ n8_; (try clear hb)) | ((with_reducible refine gD (N := 22) rfl ?_); refine bE3 22 #[.int .u64 0, .int .u64 0] 24 ?hr ?_; (case hr => first | (go_simp; done) | (go_simp; rfl)); intro gb398 hg w428 hbox hb; have n0_ := aM (bB3 BK357.out hb); have n1_ := aM (bB3 BK363.out hb); have n2_ := aM (bB3 BK372.out hb); have n3_ := aM (bB3 BK373.out hb); have n4_ := aM (bB3 BK382.out hb); have n5_ := aM (bB3 BK385.out hb); have n6_ := aM (bB3 BK390.out hb); have n7_ := aM (bB3 BK394.out hb); have n8_ := aM (bS3 HB.out hb); have n9_ := aM (hbox); have n10_ := aM ((bZ3 hg HB.out)); have n11_ := aM ((bZ3 hg HB.out)); have n12_ := aM ((bL3 hg BK357.out)); have n13_ := aM ((bG3 hg BK357.out)); have n14_ := aM ((bL3 hg BK363.out)); have n15_ := aM ((bG3 hg BK363.out)); have n16_ := aM ((bL3 hg BK372.out)); have n17_ := aM ((bG3 hg BK372.out)); have n18_ := aM ((bL3 hg BK373.out)); have n19_ := aM ((bG3 hg BK373.out)); have n20_ := aM ((bL3 hg BK382.out)); have n21_ := aM ((bG3 hg BK382.out)); have n22_ := aM ((bL3 hg BK385.out)); have n23_ := aM ((bG3 hg BK385.out)); have n24_ := aM ((bL3 hg BK390.out)); have n25_ := aM ((bG3 hg BK390.out)); have n26_ := aM ((bL3 hg BK394.out)); have n27_ := aM ((bG3 hg BK394.out)); clear BK357; clear BK363; clear BK372; clear BK373; clear BK382; clear BK385; clear BK390; clear BK394; clear HB; have BK357 := n0_; have BK363 := n1_; have BK372 := n2_; have BK373 := n3_; have BK382 := n4_; have BK385 := n5_; have BK390 := n6_; have BK394 := n7_; have HB := n8_; have BK398 := n9_; have GW398 := n10_; have GE398 := n11_; have NB357_398 := n12_; have NB398_357 := n13_; have NB363_398 := n14_; have NB398_363 := n15_; have NB372_398 := n16_; have NB398_372 := n17_; have NB373_398 := n18_; have NB398_373 := n19_; have NB382_398 := n20_; have NB398_382 := n21_; have NB385_398 := n22_; have NB398_385 := n23_; have NB390_398 := n24_; have NB398_390 := n25_; have NB394_398 := n26_; have NB398_394 := n27_; clear n0_ n1_ n2_ n3_ n4_ n5_ n6_ n7_ n8_ n9_ n10_ n11_ n12_ n13_ n14_ n15_ n16_ n17_ n18_ n19_ n20_ n21_ n22_ n23_ n24_ n25_ n26_ n27_; clear hb hbox hg; have hnb429 := NB398_357.out; have hnc429 := NB357_398.out; have hnb430 := NB398_363.out; have hnc430 := NB363_398.out; have hnb431 := NB398_372.out; have hnc431 := NB372_398.out; have hnb432 := NB398_373.out; have hnc432 := NB373_398.out; have hnb433 := NB398_382.out; have hnc433 := NB382_398.out; have hnb434 := NB398_385.out; have hnc434 := NB385_398.out; have hnb435 := NB398_390.out; have hnc435 := NB390_398.out; have hnb436 := NB398_394.out; have hnc436 := NB394_398.out; have hcz437_0 := blk_cellL BK398.out 0 _ rfl; have hcz437_1 := blk_cellL BK398.out 1 _ rfl; have hfz437_0 := bF BK398.out 0; have hfz437_1 := bF BK398.out 1; have hnb438 := NB357_372.out; have hnc438 := NB372_357.out; have hnb439 := NB357_373.out; have hnc439 := NB373_357.out; have hcz440_0 := blk_cellL BK357.out 0 _ rfl; have hcz440_1 := blk_cellL BK357.out 1 _ rfl; have hfz440_0 := bF BK357.out 0; have hfz440_1 := bF BK357.out 1))
                        go_ret
                        exact ⟨by first | rfl | (simp [errW_none, errW_some] <;> rfl) | (simp [*, errW_none, errW_some] <;> rfl), by repeat (first | (with_reducible first | exact HB.out | apply pA | apply pN | apply p1 | refine pS ?_ GE357.out | refine pS ?_ GE363.out | refine pS ?_ GE372.out | refine pS ?_ GE373.out | refine pS ?_ GE382.out | refine pS ?_ GE385.out | refine pS ?_ GE390.out | refine pS ?_ GE394.out | refine pS ?_ GE398.out) | exact HB.out)⟩
                  · have H1 : (some false) = some r := by rw [if_neg (show ¬ (some q399).isNone = true by simp)] at H; exact H
                    clear H
                    have H := H1
                    clear H1
                    try simp only [errW_none, errW_some]
                    obtain rfl := Option.some.inj H
                    have hnb441 := NB363_357.out
                    have hnc441 := NB357_363.out
                    have hnb442 := NB363_372.out
                    have hnc442 := NB372_363.out
                    have hnb443 := NB363_373.out
                    have hnc443 := NB373_363.out
                    have hcz444_0 := blk_cellL BK363.out 0 _ rfl
                    have hcz444_1 := blk_cellL BK363.out 1 _ rfl
                    have hfz444_0 := bF BK363.out 0
                    have hfz444_1 := bF BK363.out 1
                    go_wp2_with (first | ((with_reducible refine gC (f := 11) rfl ?_); refine gY (some 121) Try.func11 #[.int .u64 t359, .int .u64 a1] ?_; (with_reducible refine (twin_Mul.calls t359 a1 t380 t381 _ A222.out).mono ?_); rintro e w445 ⟨rfl, hb⟩; refine ⟨_, rfl, ?_⟩; have n0_ := aM (bB3 BK357.out hb); have n1_ := aM (bB3 BK363.out hb); have n2_ := aM (bB3 BK372.out hb); have n3_ := aM (bB3 BK373.out hb); have n4_ := aM (bS3 HB.out hb); clear BK357; clear BK363; clear BK372; clear BK373; clear HB; have BK357 := n0_; have BK363 := n1_; have BK372 := n2_; have BK373 := n3_; have HB := n4_; clear n0_ n1_ n2_ n3_ n4_; (try clear hb)) | ((with_reducible refine gD (N := 15) rfl ?_); refine bE3 15 #[.int .u64 0, .int .u64 0] 24 ?hr ?_; (case hr => first | (go_simp; done) | (go_simp; rfl)); intro gb382 hg w446 hbox hb; have n0_ := aM (bB3 BK357.out hb); have n1_ := aM (bB3 BK363.out hb); have n2_ := aM (bB3 BK372.out hb); have n3_ := aM (bB3 BK373.out hb); have n4_ := aM (bS3 HB.out hb); have n5_ := aM (hbox); have n6_ := aM ((bZ3 hg HB.out)); have n7_ := aM ((bZ3 hg HB.out)); have n8_ := aM ((bL3 hg BK357.out)); have n9_ := aM ((bG3 hg BK357.out)); have n10_ := aM ((bL3 hg BK363.out)); have n11_ := aM ((bG3 hg BK363.out)); have n12_ := aM ((bL3 hg BK372.out)); have n13_ := aM ((bG3 hg BK372.out)); have n14_ := aM ((bL3 hg BK373.out)); have n15_ := aM ((bG3 hg BK373.out)); clear BK357; clear BK363; clear BK372; clear BK373; clear HB; have BK357 := n0_; have BK363 := n1_; have BK372 := n2_; have BK373 := n3_; have HB := n4_; have BK382 := n5_; have GW382 := n6_; have GE382 := n7_; have NB357_382 := n8_; have NB382_357 := n9_; have NB363_382 := n10_; have NB382_363 := n11_; have NB372_382 := n12_; have NB382_372 := n13_; have NB373_382 := n14_; have NB382_373 := n15_; clear n0_ n1_ n2_ n3_ n4_ n5_ n6_ n7_ n8_ n9_ n10_ n11_ n12_ n13_ n14_ n15_; clear hb hbox hg; have hnb447 := NB382_357.out; have hnc447 := NB357_382.out; have hnb448 := NB382_363.out; have hnc448 := NB363_382.out; have hnb449 := NB382_372.out; have hnc449 := NB372_382.out; have hnb450 := NB382_373.out; have hnc450 := NB373_382.out; have hcz451_0 := blk_cellL BK382.out 0 _ rfl; have hcz451_1 := blk_cellL BK382.out 1 _ rfl; have hfz451_0 := bF BK382.out 0; have hfz451_1 := bF BK382.out 1; have hcz452_0 := blk_cellL BK363.out 0 _ rfl; have hcz452_1 := blk_cellL BK363.out 1 _ rfl; have hfz452_0 := bF BK363.out 0; have hfz452_1 := bF BK363.out 1) | ((with_reducible refine gC (f := 11) rfl ?_); refine gY (some 125) Try.func11 #[.int .u64 t360, .int .u64 a1] ?_; (with_reducible refine (twin_Mul.calls t360 a1 t383 t384 _ A223.out).mono ?_); rintro e w453 ⟨rfl, hb⟩; refine ⟨_, rfl, ?_⟩; have n0_ := aM (bB (g := gb357) (o := .cells #[.int .u64 a0_0, .int .u64 a0_1] 24 (0, 0)) (by (with_reducible repeat (first | refine bN ?_ _ | refine bD ?_ | refine bA ?_ _)); refine blk_far ?_ NB357_382.out _; (with_reducible repeat (first | refine bN ?_ _ | refine bD ?_ | refine bA ?_ _)); refine blk_far ?_ NB357_382.out _; (with_reducible repeat (first | refine bN ?_ _ | refine bD ?_ | refine bA ?_ _)); exact BK357.out) hb); have n1_ := aM (bB (g := gb363) (o := .cells #[.int .u64 t359, .int .u64 t360] 24 (0, 0)) (by (with_reducible repeat (first | refine bN ?_ _ | refine bD ?_ | refine bA ?_ _)); refine blk_far ?_ NB363_382.out _; (with_reducible repeat (first | refine bN ?_ _ | refine bD ?_ | refine bA ?_ _)); refine blk_far ?_ NB363_382.out _; (with_reducible repeat (first | refine bN ?_ _ | refine bD ?_ | refine bA ?_ _)); exact BK363.out) hb); have n2_ := aM (bB (g := gb372) (o := .cells #[.int .u64 t367, .int .u64 t368] 24 (0, 0)) (by (with_reducible repeat (first | refine bN ?_ _ | refine bD ?_ | refine bA ?_ _)); refine blk_far ?_ NB372_382.out _; (with_reducible repeat (first | refine bN ?_ _ | refine bD ?_ | refine bA ?_ _)); refine blk_far ?_ NB372_382.out _; (with_reducible repeat (first | refine bN ?_ _ | refine bD ?_ | refine bA ?_ _)); exact BK372.out) hb); have n3_ := aM (bB (g := gb373) (o := .cells #[.int .u64 t369, .int .u64 t370] 24 (0, 0)) (by (with_reducible repeat (first | refine bN ?_ _ | refine bD ?_ | refine bA ?_ _)); refine blk_far ?_ NB373_382.out _; (with_reducible repeat (first | refine bN ?_ _ | refine bD ?_ | refine bA ?_ _)); refine blk_far ?_ NB373_382.out _; (with_reducible repeat (first | refine bN ?_ _ | refine bD ?_ | refine bA ?_ _)); exact BK373.out) hb); have n4_ := aM (bB (g := gb382) (o := .cells #[.int .u64 t380, .int .u64 t381] 24 (0, 0)) (by (with_reducible repeat (first | refine bN ?_ _ | refine bD ?_ | refine bA ?_ _)); refine blk_put (cs := #[.int .u64 t380, .int .u64 0]) ?_ 1 _ rfl; (with_reducible repeat (first | refine bN ?_ _ | refine bD ?_ | refine bA ?_ _)); refine blk_put (cs := #[.int .u64 0, .int .u64 0]) ?_ 0 _ rfl; (with_reducible repeat (first | refine bN ?_ _ | refine bD ?_ | refine bA ?_ _)); exact BK382.out) hb); have n5_ := aM (bS3 HB.out hb); clear BK357; clear BK363; clear BK372; clear BK373; clear BK382; clear HB; have BK357 := n0_; have BK363 := n1_; have BK372 := n2_; have BK373 := n3_; have BK382 := n4_; have HB := n5_; clear n0_ n1_ n2_ n3_ n4_ n5_; (try clear hb)) | ((with_reducible refine gD (N := 16) rfl ?_); refine bE3 16 #[.int .u64 0, .int .u64 0] 24 ?hr ?_; (case hr => first | (go_simp; done) | (go_simp; rfl)); intro gb385 hg w454 hbox hb; have n0_ := aM (bB3 BK357.out hb); have n1_ := aM (bB3 BK363.out hb); have n2_ := aM (bB3 BK372.out hb); have n3_ := aM (bB3 BK373.out hb); have n4_ := aM (bB3 BK382.out hb); have n5_ := aM (bS3 HB.out hb); have n6_ := aM (hbox); have n7_ := aM ((bZ3 hg HB.out)); have n8_ := aM ((bZ3 hg HB.out)); have n9_ := aM ((bL3 hg BK357.out)); have n10_ := aM ((bG3 hg BK357.out)); have n11_ := aM ((bL3 hg BK363.out)); have n12_ := aM ((bG3 hg BK363.out)); have n13_ := aM ((bL3 hg BK372.out)); have n14_ := aM ((bG3 hg BK372.out)); have n15_ := aM ((bL3 hg BK373.out)); have n16_ := aM ((bG3 hg BK373.out)); have n17_ := aM ((bL3 hg BK382.out)); have n18_ := aM ((bG3 hg BK382.out)); clear BK357; clear BK363; clear BK372; clear BK373; clear BK382; clear HB; have BK357 := n0_; have BK363 := n1_; have BK372 := n2_; have BK373 := n3_; have BK382 := n4_; have HB := n5_; have BK385 := n6_; have GW385 := n7_; have GE385 := n8_; have NB357_385 := n9_; have NB385_357 := n10_; have NB363_385 := n11_; have NB385_363 := n12_; have NB372_385 := n13_; have NB385_372 := n14_; have NB373_385 := n15_; have NB385_373 := n16_; have NB382_385 := n17_; have NB385_382 := n18_; clear n0_ n1_ n2_ n3_ n4_ n5_ n6_ n7_ n8_ n9_ n10_ n11_ n12_ n13_ n14_ n15_ n16_ n17_ n18_; clear hb hbox hg; have hnb455 := NB385_357.out; have hnc455 := NB357_385.out; have hnb456 := NB385_363.out; have hnc456 := NB363_385.out; have hnb457 := NB385_372.out; have hnc457 := NB372_385.out; have hnb458 := NB385_373.out; have hnc458 := NB373_385.out; have hnb459 := NB385_382.out; have hnc459 := NB382_385.out; have hcz460_0 := blk_cellL BK385.out 0 _ rfl; have hcz460_1 := blk_cellL BK385.out 1 _ rfl; have hfz460_0 := bF BK385.out 0; have hfz460_1 := bF BK385.out 1; have hcz461_0 := blk_cellL BK382.out 0 _ rfl; have hcz461_1 := blk_cellL BK382.out 1 _ rfl; have hfz461_0 := bF BK382.out 0; have hfz461_1 := bF BK382.out 1) | ((with_reducible refine gC (f := 12) rfl ?_); refine gY (some 128) Try.func12 #[.agg #[.int .u64 t380, .int .u64 t381], .int .i64 64] ?_; (with_reducible refine (twin_Shl.calls kj200 t380 t381 64 t386 t387 false (some q399) _ A224.out).mono ?_); rintro e w462 ⟨rfl, hb⟩; refine ⟨_, rfl, ?_⟩; have n0_ := aM (bB (g := gb357) (o := .cells #[.int .u64 a0_0, .int .u64 a0_1] 24 (0, 0)) (by (with_reducible repeat (first | refine bN ?_ _ | refine bD ?_ | refine bA ?_ _)); refine blk_far ?_ NB357_385.out _; (with_reducible repeat (first | refine bN ?_ _ | refine bD ?_ | refine bA ?_ _)); refine blk_far ?_ NB357_385.out _; (with_reducible repeat (first | refine bN ?_ _ | refine bD ?_ | refine bA ?_ _)); exact BK357.out) hb); have n1_ := aM (bB (g := gb363) (o := .cells #[.int .u64 t359, .int .u64 t360] 24 (0, 0)) (by (with_reducible repeat (first | refine bN ?_ _ | refine bD ?_ | refine bA ?_ _)); refine blk_far ?_ NB363_385.out _; (with_reducible repeat (first | refine bN ?_ _ | refine bD ?_ | refine bA ?_ _)); refine blk_far ?_ NB363_385.out _; (with_reducible repeat (first | refine bN ?_ _ | refine bD ?_ | refine bA ?_ _)); exact BK363.out) hb); have n2_ := aM (bB (g := gb372) (o := .cells #[.int .u64 t367, .int .u64 t368] 24 (0, 0)) (by (with_reducible repeat (first | refine bN ?_ _ | refine bD ?_ | refine bA ?_ _)); refine blk_far ?_ NB372_385.out _; (with_reducible repeat (first | refine bN ?_ _ | refine bD ?_ | refine bA ?_ _)); refine blk_far ?_ NB372_385.out _; (with_reducible repeat (first | refine bN ?_ _ | refine bD ?_ | refine bA ?_ _)); exact BK372.out) hb); have n3_ := aM (bB (g := gb373) (o := .cells #[.int .u64 t369, .int .u64 t370] 24 (0, 0)) (by (with_reducible repeat (first | refine bN ?_ _ | refine bD ?_ | refine bA ?_ _)); refine blk_far ?_ NB373_385.out _; (with_reducible repeat (first | refine bN ?_ _ | refine bD ?_ | refine bA ?_ _)); refine blk_far ?_ NB373_385.out _; (with_reducible repeat (first | refine bN ?_ _ | refine bD ?_ | refine bA ?_ _)); exact BK373.out) hb); have n4_ := aM (bB (g := gb382) (o := .cells #[.int .u64 t380, .int .u64 t381] 24 (0, 0)) (by (with_reducible repeat (first | refine bN ?_ _ | refine bD ?_ | refine bA ?_ _)); refine blk_far ?_ NB382_385.out _; (with_reducible repeat (first | refine bN ?_ _ | refine bD ?_ | refine bA ?_ _)); refine blk_far ?_ NB382_385.out _; (with_reducible repeat (first | refine bN ?_ _ | refine bD ?_ | refine bA ?_ _)); exact BK382.out) hb); have n5_ := aM (bB (g := gb385) (o := .cells #[.int .u64 t383, .int .u64 t384] 24 (0, 0)) (by (with_reducible repeat (first | refine bN ?_ _ | refine bD ?_ | refine bA ?_ _)); refine blk_put (cs := #[.int .u64 t383, .int .u64 0]) ?_ 1 _ rfl; (with_reducible repeat (first | refine bN ?_ _ | refine bD ?_ | refine bA ?_ _)); refine blk_put (cs := #[.int .u64 0, .int .u64 0]) ?_ 0 _ rfl; (with_reducible repeat (first | refine bN ?_ _ | refine bD ?_ | refine bA ?_ _)); exact BK385.out) hb); have n6_ := aM (bS3 HB.out hb); clear BK357; clear BK363; clear BK372; clear BK373; clear BK382; clear BK385; clear HB; have BK357 := n0_; have BK363 := n1_; have BK372 := n2_; have BK373 := n3_; have BK382 := n4_; have BK385 := n5_; have HB := n6_; clear n0_ n1_ n2_ n3_ n4_ n5_ n6_; (try clear hb); (try simp only [errW_none, errW_some])) | ((with_reducible refine gD (N := 17) rfl ?_); refine bE3 17 #[.int .u64 0, .int .u64 0] 24 ?hr ?_; (case hr => first | (go_simp; done) | (go_simp; rfl)); intro gb390 hg w463 hbox hb; have n0_ := aM (bB3 BK357.out hb); have n1_ := aM (bB3 BK363.out hb); have n2_ := aM (bB3 BK372.out hb); have n3_ := aM (bB3 BK373.out hb); have n4_ := aM (bB3 BK382.out hb); have n5_ := aM (bB3 BK385.out hb); have n6_ := aM (bS3 HB.out hb); have n7_ := aM (hbox); have n8_ := aM ((bZ3 hg HB.out)); have n9_ := aM ((bZ3 hg HB.out)); have n10_ := aM ((bL3 hg BK357.out)); have n11_ := aM ((bG3 hg BK357.out)); have n12_ := aM ((bL3 hg BK363.out)); have n13_ := aM ((bG3 hg BK363.out)); have n14_ := aM ((bL3 hg BK372.out)); have n15_ := aM ((bG3 hg BK372.out)); have n16_ := aM ((bL3 hg BK373.out)); have n17_ := aM ((bG3 hg BK373.out)); have n18_ := aM ((bL3 hg BK382.out)); have n19_ := aM ((bG3 hg BK382.out)); have n20_ := aM ((bL3 hg BK385.out)); have n21_ := aM ((bG3 hg BK385.out)); clear BK357; clear BK363; clear BK372; clear BK373; clear BK382; clear BK385; clear HB; have BK357 := n0_; have BK363 := n1_; have BK372 := n2_; have BK373 := n3_; have BK382 := n4_; have BK385 := n5_; have HB := n6_; have BK390 := n7_; have GW390 := n8_; have GE390 := n9_; have NB357_390 := n10_; have NB390_357 := n11_; have NB363_390 := n12_; have NB390_363 := n13_; have NB372_390 := n14_; have NB390_372 := n15_; have NB373_390 := n16_; have NB390_373 := n17_; have NB382_390 := n18_; have NB390_382 := n19_; have NB385_390 := n20_; have NB390_385 := n21_; clear n0_ n1_ n2_ n3_ n4_ n5_ n6_ n7_ n8_ n9_ n10_ n11_ n12_ n13_ n14_ n15_ n16_ n17_ n18_ n19_ n20_ n21_; clear hb hbox hg; have hnb464 := NB390_357.out; have hnc464 := NB357_390.out; have hnb465 := NB390_363.out; have hnc465 := NB363_390.out; have hnb466 := NB390_372.out; have hnc466 := NB372_390.out; have hnb467 := NB390_373.out; have hnc467 := NB373_390.out; have hnb468 := NB390_382.out; have hnc468 := NB382_390.out; have hnb469 := NB390_385.out; have hnc469 := NB385_390.out; have hcz470_0 := blk_cellL BK390.out 0 _ rfl; have hcz470_1 := blk_cellL BK390.out 1 _ rfl; have hfz470_0 := bF BK390.out 0; have hfz470_1 := bF BK390.out 1; have hcz471_0 := blk_cellL BK385.out 0 _ rfl; have hcz471_1 := blk_cellL BK385.out 1 _ rfl; have hfz471_0 := bF BK385.out 0; have hfz471_1 := bF BK385.out 1) | ((with_reducible refine gC (f := 13) rfl ?_); refine gY (some 135) Try.func13 #[.agg #[.int .u64 t386, .int .u64 t387], .agg #[.int .u64 t383, .int .u64 t384]] ?_; (with_reducible refine (twin_Add.calls t386 t387 t383 t384 t391 t392 t393 _ A225.out).mono ?_); rintro e w472 ⟨rfl, hb⟩; refine ⟨_, rfl, ?_⟩; have n0_ := aM (bB (g := gb357) (o := .cells #[.int .u64 a0_0, .int .u64 a0_1] 24 (0, 0)) (by (with_reducible repeat (first | refine bN ?_ _ | refine bD ?_ | refine bA ?_ _)); refine blk_far ?_ NB357_390.out _; (with_reducible repeat (first | refine bN ?_ _ | refine bD ?_ | refine bA ?_ _)); refine blk_far ?_ NB357_390.out _; (with_reducible repeat (first | refine bN ?_ _ | refine bD ?_ | refine bA ?_ _)); exact BK357.out) hb); have n1_ := aM (bB (g := gb363) (o := .cells #[.int .u64 t359, .int .u64 t360] 24 (0, 0)) (by (with_reducible repeat (first | refine bN ?_ _ | refine bD ?_ | refine bA ?_ _)); refine blk_far ?_ NB363_390.out _; (with_reducible repeat (first | refine bN ?_ _ | refine bD ?_ | refine bA ?_ _)); refine blk_far ?_ NB363_390.out _; (with_reducible repeat (first | refine bN ?_ _ | refine bD ?_ | refine bA ?_ _)); exact BK363.out) hb); have n2_ := aM (bB (g := gb372) (o := .cells #[.int .u64 t367, .int .u64 t368] 24 (0, 0)) (by (with_reducible repeat (first | refine bN ?_ _ | refine bD ?_ | refine bA ?_ _)); refine blk_far ?_ NB372_390.out _; (with_reducible repeat (first | refine bN ?_ _ | refine bD ?_ | refine bA ?_ _)); refine blk_far ?_ NB372_390.out _; (with_reducible repeat (first | refine bN ?_ _ | refine bD ?_ | refine bA ?_ _)); exact BK372.out) hb); have n3_ := aM (bB (g := gb373) (o := .cells #[.int .u64 t369, .int .u64 t370] 24 (0, 0)) (by (with_reducible repeat (first | refine bN ?_ _ | refine bD ?_ | refine bA ?_ _)); refine blk_far ?_ NB373_390.out _; (with_reducible repeat (first | refine bN ?_ _ | refine bD ?_ | refine bA ?_ _)); refine blk_far ?_ NB373_390.out _; (with_reducible repeat (first | refine bN ?_ _ | refine bD ?_ | refine bA ?_ _)); exact BK373.out) hb); have n4_ := aM (bB (g := gb382) (o := .cells #[.int .u64 t380, .int .u64 t381] 24 (0, 0)) (by (with_reducible repeat (first | refine bN ?_ _ | refine bD ?_ | refine bA ?_ _)); refine blk_far ?_ NB382_390.out _; (with_reducible repeat (first | refine bN ?_ _ | refine bD ?_ | refine bA ?_ _)); refine blk_far ?_ NB382_390.out _; (with_reducible repeat (first | refine bN ?_ _ | refine bD ?_ | refine bA ?_ _)); exact BK382.out) hb); have n5_ := aM (bB (g := gb385) (o := .cells #[.int .u64 t383, .int .u64 t384] 24 (0, 0)) (by (with_reducible repeat (first | refine bN ?_ _ | refine bD ?_ | refine bA ?_ _)); refine blk_far ?_ NB385_390.out _; (with_reducible repeat (first | refine bN ?_ _ | refine bD ?_ | refine bA ?_ _)); refine blk_far ?_ NB385_390.out _; (with_reducible repeat (first | refine bN ?_ _ | refine bD ?_ | refine bA ?_ _)); exact BK385.out) hb); have n6_ := aM (bB (g := gb390) (o := .cells #[.int .u64 t386, .int .u64 t387] 24 (0, 0)) (by (with_reducible repeat (first | refine bN ?_ _ | refine bD ?_ | refine bA ?_ _)); refine blk_put (cs := #[.int .u64 t386, .int .u64 0]) ?_ 1 _ rfl; (with_reducible repeat (first | refine bN ?_ _ | refine bD ?_ | refine bA ?_ _)); refine blk_put (cs := #[.int .u64 0, .int .u64 0]) ?_ 0 _ rfl; (with_reducible repeat (first | refine bN ?_ _ | refine bD ?_ | refine bA ?_ _)); exact BK390.out) hb); have n7_ := aM (bS3 HB.out hb); clear BK357; clear BK363; clear BK372; clear BK373; clear BK382; clear BK385; clear BK390; clear HB; have BK357 := n0_; have BK363 := n1_; have BK372 := n2_; have BK373 := n3_; have BK382 := n4_; have BK385 := n5_; have BK390 := n6_; have HB := n7_; clear n0_ n1_ n2_ n3_ n4_ n5_ n6_ n7_; (try clear hb)) | ((with_reducible refine gD (N := 20) rfl ?_); refine bE3 20 #[.int .u64 0, .int .u64 0] 24 ?hr ?_; (case hr => first | (go_simp; done) | (go_simp; rfl)); intro gb394 hg w473 hbox hb; have n0_ := aM (bB3 BK357.out hb); have n1_ := aM (bB3 BK363.out hb); have n2_ := aM (bB3 BK372.out hb); have n3_ := aM (bB3 BK373.out hb); have n4_ := aM (bB3 BK382.out hb); have n5_ := aM (bB3 BK385.out hb); have n6_ := aM (bB3 BK390.out hb); have n7_ := aM (bS3 HB.out hb); have n8_ := aM (hbox); have n9_ := aM ((bZ3 hg HB.out)); have n10_ := aM ((bZ3 hg HB.out)); have n11_ := aM ((bL3 hg BK357.out)); have n12_ := aM ((bG3 hg BK357.out)); have n13_ := aM ((bL3 hg BK363.out)); have n14_ := aM ((bG3 hg BK363.out)); have n15_ := aM ((bL3 hg BK372.out)); have n16_ := aM ((bG3 hg BK372.out)); have n17_ := aM ((bL3 hg BK373.out)); have n18_ := aM ((bG3 hg BK373.out)); have n19_ := aM ((bL3 hg BK382.out)); have n20_ := aM ((bG3 hg BK382.out)); have n21_ := aM ((bL3 hg BK385.out)); have n22_ := aM ((bG3 hg BK385.out)); have n23_ := aM ((bL3 hg BK390.out)); have n24_ := aM ((bG3 hg BK390.out)); clear BK357; clear BK363; clear BK372; clear BK373; clear BK382; clear BK385; clear BK390; clear HB; have BK357 := n0_; have BK363 := n1_; have BK372 := n2_; have BK373 := n3_; have BK382 := n4_; have BK385 := n5_; have BK390 := n6_; have HB := n7_; have BK394 := n8_; have GW394 := n9_; have GE394 := n10_; have NB357_394 := n11_; have NB394_357 := n12_; have NB363_394 := n13_; have NB394_363 := n14_; have NB372_394 := n15_; have NB394_372 := n16_; have NB373_394 := n17_; have NB394_373 := n18_; have NB382_394 := n19_; have NB394_382 := n20_; have NB385_394 := n21_; have NB394_385 := n22_; have NB390_394 := n23_; have NB394_390 := n24_; clear n0_ n1_ n2_ n3_ n4_ n5_ n6_ n7_ n8_ n9_ n10_ n11_ n12_ n13_ n14_ n15_ n16_ n17_ n18_ n19_ n20_ n21_ n22_ n23_ n24_; clear hb hbox hg; have hnb474 := NB394_357.out; have hnc474 := NB357_394.out; have hnb475 := NB394_363.out; have hnc475 := NB363_394.out; have hnb476 := NB394_372.out; have hnc476 := NB372_394.out; have hnb477 := NB394_373.out; have hnc477 := NB373_394.out; have hnb478 := NB394_382.out; have hnc478 := NB382_394.out; have hnb479 := NB394_385.out; have hnc479 := NB385_394.out; have hnb480 := NB394_390.out; have hnc480 := NB390_394.out; have hcz481_0 := blk_cellL BK394.out 0 _ rfl; have hcz481_1 := blk_cellL BK394.out 1 _ rfl; have hfz481_0 := bF BK394.out 0; have hfz481_1 := bF BK394.out 1) | ((with_reducible refine gC (f := 13) rfl ?_); refine gY (some 142) Try.func13 #[.agg #[.int .u64 t391, .int .u64 t392], .agg #[.int .u64 0, .int .u64 t361]] ?_; (with_reducible refine (twin_Add.calls t391 t392 0 t361 t395 t396 t397 _ A226.out).mono ?_); rintro e w482 ⟨rfl, hb⟩; refine ⟨_, rfl, ?_⟩; have n0_ := aM (bB (g := gb357) (o := .cells #[.int .u64 a0_0, .int .u64 a0_1] 24 (0, 0)) (by (with_reducible repeat (first | refine bN ?_ _ | refine bD ?_ | refine bA ?_ _)); refine blk_far ?_ NB357_394.out _; (with_reducible repeat (first | refine bN ?_ _ | refine bD ?_ | refine bA ?_ _)); refine blk_far ?_ NB357_394.out _; (with_reducible repeat (first | refine bN ?_ _ | refine bD ?_ | refine bA ?_ _)); exact BK357.out) hb); have n1_ := aM (bB (g := gb363) (o := .cells #[.int .u64 t359, .int .u64 t360] 24 (0, 0)) (by (with_reducible repeat (first | refine bN ?_ _ | refine bD ?_ | refine bA ?_ _)); refine blk_far ?_ NB363_394.out _; (with_reducible repeat (first | refine bN ?_ _ | refine bD ?_ | refine bA ?_ _)); refine blk_far ?_ NB363_394.out _; (with_reducible repeat (first | refine bN ?_ _ | refine bD ?_ | refine bA ?_ _)); exact BK363.out) hb); have n2_ := aM (bB (g := gb372) (o := .cells #[.int .u64 t367, .int .u64 t368] 24 (0, 0)) (by (with_reducible repeat (first | refine bN ?_ _ | refine bD ?_ | refine bA ?_ _)); refine blk_far ?_ NB372_394.out _; (with_reducible repeat (first | refine bN ?_ _ | refine bD ?_ | refine bA ?_ _)); refine blk_far ?_ NB372_394.out _; (with_reducible repeat (first | refine bN ?_ _ | refine bD ?_ | refine bA ?_ _)); exact BK372.out) hb); have n3_ := aM (bB (g := gb373) (o := .cells #[.int .u64 t369, .int .u64 t370] 24 (0, 0)) (by (with_reducible repeat (first | refine bN ?_ _ | refine bD ?_ | refine bA ?_ _)); refine blk_far ?_ NB373_394.out _; (with_reducible repeat (first | refine bN ?_ _ | refine bD ?_ | refine bA ?_ _)); refine blk_far ?_ NB373_394.out _; (with_reducible repeat (first | refine bN ?_ _ | refine bD ?_ | refine bA ?_ _)); exact BK373.out) hb); have n4_ := aM (bB (g := gb382) (o := .cells #[.int .u64 t380, .int .u64 t381] 24 (0, 0)) (by (with_reducible repeat (first | refine bN ?_ _ | refine bD ?_ | refine bA ?_ _)); refine blk_far ?_ NB382_394.out _; (with_reducible repeat (first | refine bN ?_ _ | refine bD ?_ | refine bA ?_ _)); refine blk_far ?_ NB382_394.out _; (with_reducible repeat (first | refine bN ?_ _ | refine bD ?_ | refine bA ?_ _)); exact BK382.out) hb); have n5_ := aM (bB (g := gb385) (o := .cells #[.int .u64 t383, .int .u64 t384] 24 (0, 0)) (by (with_reducible repeat (first | refine bN ?_ _ | refine bD ?_ | refine bA ?_ _)); refine blk_far ?_ NB385_394.out _; (with_reducible repeat (first | refine bN ?_ _ | refine bD ?_ | refine bA ?_ _)); refine blk_far ?_ NB385_394.out _; (with_reducible repeat (first | refine bN ?_ _ | refine bD ?_ | refine bA ?_ _)); exact BK385.out) hb); have n6_ := aM (bB (g := gb390) (o := .cells #[.int .u64 t386, .int .u64 t387] 24 (0, 0)) (by (with_reducible repeat (first | refine bN ?_ _ | refine bD ?_ | refine bA ?_ _)); refine blk_far ?_ NB390_394.out _; (with_reducible repeat (first | refine bN ?_ _ | refine bD ?_ | refine bA ?_ _)); refine blk_far ?_ NB390_394.out _; (with_reducible repeat (first | refine bN ?_ _ | refine bD ?_ | refine bA ?_ _)); exact BK390.out) hb); have n7_ := aM (bB (g := gb394) (o := .cells #[.int .u64 t391, .int .u64 t392] 24 (0, 0)) (by (with_reducible repeat (first | refine bN ?_ _ | refine bD ?_ | refine bA ?_ _)); refine blk_put (cs := #[.int .u64 t391, .int .u64 0]) ?_ 1 _ rfl; (with_reducible repeat (first | refine bN ?_ _ | refine bD ?_ | refine bA ?_ _)); refine blk_put (cs := #[.int .u64 0, .int .u64 0]) ?_ 0 _ rfl; (with_reducible repeat (first | refine bN ?_ _ | refine bD ?_ | refine bA ?_ _)); exact BK394.out) hb); have n8_ := aM (bS3 HB.out hb); clear BK357; clear BK363; clear BK372; clear BK373; clear BK382; clear BK385; clear BK390; clear BK394; clear HB; have BK357 := n0_; have BK363 := n1_; have BK372 := n2_; have BK373 := n3_; have BK382 := n4_; have BK385 := n5_; have BK390 := n6_; have BK394 := n7_; have HB := n8_; clear n0_ n1_ n2_ n3_ n4_ n5_ n6_ n7_ n8_; (try clear hb)) | ((with_reducible refine gD (N := 22) rfl ?_); refine bE3 22 #[.int .u64 0, .int .u64 0] 24 ?hr ?_; (case hr => first | (go_simp; done) | (go_simp; rfl)); intro gb398 hg w483 hbox hb; have n0_ := aM (bB3 BK357.out hb); have n1_ := aM (bB3 BK363.out hb); have n2_ := aM (bB3 BK372.out hb); have n3_ := aM (bB3 BK373.out hb); have n4_ := aM (bB3 BK382.out hb); have n5_ := aM (bB3 BK385.out hb); have n6_ := aM (bB3 BK390.out hb); have n7_ := aM (bB3 BK394.out hb); have n8_ := aM (bS3 HB.out hb); have n9_ := aM (hbox); have n10_ := aM ((bZ3 hg HB.out)); have n11_ := aM ((bZ3 hg HB.out)); have n12_ := aM ((bL3 hg BK357.out)); have n13_ := aM ((bG3 hg BK357.out)); have n14_ := aM ((bL3 hg BK363.out)); have n15_ := aM ((bG3 hg BK363.out)); have n16_ := aM ((bL3 hg BK372.out)); have n17_ := aM ((bG3 hg BK372.out)); have n18_ := aM ((bL3 hg BK373.out)); have n19_ := aM ((bG3 hg BK373.out)); have n20_ := aM ((bL3 hg BK382.out)); have n21_ := aM ((bG3 hg BK382.out)); have n22_ := aM ((bL3 hg BK385.out)); have n23_ := aM ((bG3 hg BK385.out)); have n24_ := aM ((bL3 hg BK390.out)); have n25_ := aM ((bG3 hg BK390.out)); have n26_ := aM ((bL3 hg BK394.out)); have n27_ := aM ((bG3 hg BK394.out)); clear BK357; clear BK363; clear BK372; clear BK373; clear BK382; clear BK385; clear BK390; clear BK394; clear HB; have BK357 := n0_; have BK363 := n1_; have BK372 := n2_; have BK373 := n3_; have BK382 := n4_; have BK385 := n5_; have BK390 := n6_; have BK394 := n7_; have HB := n8_; have BK398 := n9_; have GW398 := n10_; have GE398 := n11_; have NB357_398 := n12_; have NB398_357 := n13_; have NB363_398 := n14_; have NB398_363 := n15_; have NB372_398 := n16_; have NB398_372 := n17_; have NB373_398 := n18_; have NB398_373 := n19_; have NB382_398 := n20_; have NB398_382 := n21_; have NB385_398 := n22_; have NB398_385 := n23_; have NB390_398 := n24_; have NB398_390 := n25_; have NB394_398 := n26_; have NB398_394 := n27_; clear n0_ n1_ n2_ n3_ n4_ n5_ n6_ n7_ n8_ n9_ n10_ n11_ n12_ n13_ n14_ n15_ n16_ n17_ n18_ n19_ n20_ n21_ n22_ n23_ n24_ n25_ n26_ n27_; clear hb hbox hg; have hnb484 := NB398_357.out; have hnc484 := NB357_398.out; have hnb485 := NB398_363.out; have hnc485 := NB363_398.out; have hnb486 := NB398_372.out; have hnc486 := NB372_398.out; have hnb487 := NB398_373.out; have hnc487 := NB373_398.out; have hnb488 := NB398_382.out; have hnc488 := NB382_398.out; have hnb489 := NB398_385.out; have hnc489 := NB385_398.out; have hnb490 := NB398_390.out; have hnc490 := NB390_398.out; have hnb491 := NB398_394.out; have hnc491 := NB394_398.out; have hcz492_0 := blk_cellL BK398.out 0 _ rfl; have hcz492_1 := blk_cellL BK398.out 1 _ rfl; have hfz492_0 := bF BK398.out 0; have hfz492_1 := bF BK398.out 1))
                    go_ret
                    exact ⟨by first | rfl | (simp [errW_none, errW_some] <;> rfl) | (simp [*, errW_none, errW_some] <;> rfl), by repeat (first | (with_reducible first | exact HB.out | apply pA | apply pN | apply p1 | refine pS ?_ GE357.out | refine pS ?_ GE363.out | refine pS ?_ GE372.out | refine pS ?_ GE373.out | refine pS ?_ GE382.out | refine pS ?_ GE385.out | refine pS ?_ GE390.out | refine pS ?_ GE394.out | refine pS ?_ GE398.out) | exact HB.out)⟩

/-- THE ONE PURE STATEMENT of vernierlaw03_PartBack: yours. -/
def vernierlaw03_PartBack.Pure : Prop := ∀ (a0_0 : Int) (a0_1 : Int) (a1 : Int), (Lit.int .u64 a0_0).wf = true → (Lit.int .u64 a0_1).wf = true → (Lit.int .u64 a1).wf = true → ∃ k, vernierlaw03_PartBack.f k a0_0 a0_1 a1 = some true
theorem vernierlaw03_PartBack.walk (P : vernierlaw03_PartBack.Pure) (a0_0 : Int) (a0_1 : Int) (a1 : Int) (w : World) (w0_0 : (Lit.int .u64 a0_0).wf = true) (w0_1 : (Lit.int .u64 a0_1).wf = true) (w1 : (Lit.int .u64 a1).wf = true) :
    Calls Try.prog 4 #[.agg #[.int .u64 a0_0, .int .u64 a0_1], .int .u64 a1] w fun e w' => e = .returned (.bool true) ∧ Below w.heap.size w w' := by
  obtain ⟨k, h⟩ := P a0_0 a0_1 a1 w0_0 w0_1 w1
  refine (vernierlaw03_PartBack.calls k a0_0 a0_1 a1 true w h).mono ?_
  rintro e w' ⟨rfl, hd⟩
  exact ⟨rfl, hd⟩

end Go.Proofs.Ytcnpnnodgfpheaa.F
