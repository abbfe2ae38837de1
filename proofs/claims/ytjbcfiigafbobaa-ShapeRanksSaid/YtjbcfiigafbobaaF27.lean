/- Functions of the given program as plain Lean functions, and for each a proof that the program's call comes to just these answers; no further conditions. (Written by a program of this repo out of the translation.) -/
import Derived.Test.YtjbcfiigafbobaaF0
import Derived.Test.YtjbcfiigafbobaaF12
import Derived.Test.YtjbcfiigafbobaaF19
import Derived.Test.YtjbcfiigafbobaaF20
import Derived.Test.YtjbcfiigafbobaaF21
namespace Go.Proofs.Ytjbcfiigafbobaa.F
open Go.RowKit Go.Proofs.YtjbcfiigafbobaaW.PrintWords Go.Proofs.YtjbcfiigafbobaaW.PrintLast Go.Proofs.YtjbcfiigafbobaaW.PrintMore
attribute [local go_sem high] xor_u64 xor_u32 eqErr29 neErr29 eqErrL29 neErrL29
attribute [local go_sem] max2_int min2_int max_two min_two max_three min_three max_four min_four   -- for this text's walks alone
set_option linter.unusedVariables false
set_option linter.unusedSimpArgs false

/-! ### vernierlaw05_ShapeRanks: function 15 -/
def vernierlaw05_ShapeRanks.f (k : Nat) (a0 : Int) (a1 : Int) : Option (Bool) := (vernierlaw05_up.f).bind fun t526 => ((shape_Rank.f a0 a1).bind fun bt527 => ((vernierref05_Rank.f k a0 a1).bind fun bt529 => (if t526 = true then (if bt527.1 = bt529.1 then ((vernierlaw00_Code.f bt527.2).bind fun t531 => (some (t531 == bt529.2))) else (some false)) else (some false))))
theorem vernierlaw05_ShapeRanks.mono : ∀ a0 a1 k, LeO (vernierlaw05_ShapeRanks.f k a0 a1) (vernierlaw05_ShapeRanks.f (k + 1) a0 a1) := by
  intro a0 a1 k
  unfold vernierlaw05_ShapeRanks.f
  repeat' first
      | (with_reducible exact vernierref05_Rank.mono _ _ _)
      | (with_reducible exact LeO.refl _)
      | (with_reducible exact LeO.none _)
      | (with_reducible refine LeO.ite ?_ ?_)
      | (with_reducible refine LeO.bind ?_ (fun _ => ?_))
      | exact vernierref05_Rank.mono _ _ _
      | exact LeO.none _
      | refine LeO.ite ?_ ?_
      | refine LeO.bind ?_ (fun _ => ?_)
set_option maxHeartbeats 8000000 in
set_option maxRecDepth 100000 in
theorem vernierlaw05_ShapeRanks.calls (k : Nat) (a0 : Int) (a1 : Int) (r : Bool) (w : World) (h : vernierlaw05_ShapeRanks.f k a0 a1 = some r) :
    Calls Try.prog 15 #[.int .i64 a0, .int .u64 a1] w fun e w' => e = .returned (.bool r) ∧ Below w.heap.size w w' := by
  have HB := Aside0.mk (Below.refl w.heap.size w)
  have H : ((vernierlaw05_up.f).bind fun t526 => ((shape_Rank.f a0 a1).bind fun bt527 => ((vernierref05_Rank.f k a0 a1).bind fun bt529 => (if t526 = true then (if bt527.1 = bt529.1 then ((vernierlaw00_Code.f bt527.2).bind fun t531 => (some (t531 == bt529.2))) else (some false)) else (some false))))) = some r := h
  clear h
  replace H := Option.bind_eq_some_iff.mp H
  obtain ⟨t526, A30, H⟩ := H
  replace H : ((shape_Rank.f a0 a1).bind fun bt527 => ((vernierref05_Rank.f k a0 a1).bind fun bt529 => (if t526 = true then (if bt527.1 = bt529.1 then ((vernierlaw00_Code.f bt527.2).bind fun t531 => (some (t531 == bt529.2))) else (some false)) else (some false)))) = some r := H
  have A3 := Aside0.mk A30
  clear A30
  replace H := Option.bind_eq_some_iff.mp H
  obtain ⟨⟨t527, t528⟩, A40, H⟩ := H
  replace H : ((vernierref05_Rank.f k a0 a1).bind fun bt529 => (if t526 = true then (if t527 = bt529.1 then ((vernierlaw00_Code.f t528).bind fun t531 => (some (t531 == bt529.2))) else (some false)) else (some false))) = some r := H
  have A4 := Aside0.mk A40
  clear A40
  replace H := Option.bind_eq_some_iff.mp H
  obtain ⟨⟨t529, t530⟩, A50, H⟩ := H
  replace H : (if t526 = true then (if t527 = t529 then ((vernierlaw00_Code.f t528).bind fun t531 => (some (t531 == t530))) else (some false)) else (some false)) = some r := H
  have A5 := Aside0.mk A50
  clear A50
  by_cases c6 : t526 = true
  · subst c6
    have H1 : (if t527 = t529 then ((vernierlaw00_Code.f t528).bind fun t531 => (some (t531 == t530))) else (some false)) = some r := by rw [if_pos rfl] at H; exact H
    clear H
    have H := H1
    clear H1
    by_cases c7 : t527 = t529
    · rw [if_pos c7] at H
      have c7b0 : (t527 == t529) = true := beq_iff_eq.mpr c7
      have c7b1 : (t527 != t529) = false := bne_eq_false_iff_eq.mpr c7
      clear c7
      replace H := Option.bind_eq_some_iff.mp H
      obtain ⟨t531, A80, H⟩ := H
      replace H : (some (t531 == t530)) = some r := H
      have A8 := Aside0.mk A80
      clear A80
      obtain rfl := Option.some.inj H
      go_enter Try.func15, Try.ntmps15
      go_wp2_with (first | ((with_reducible refine gC (f := 39) rfl ?_); refine goesY_ (some 10) Try.func39 #[] ?_; (with_reducible refine (vernierlaw05_up.calls  true _ A3.out).mono ?_); rintro e w9 ⟨rfl, hb⟩; refine ⟨_, rfl, ?_⟩; have n0_ := Aside0.mk (bS3 HB.out hb); clear HB; have HB := n0_; clear n0_; (try clear hb); (try clear hb2); (try clear hk); (try clear hi)) | ((with_reducible refine gC (f := 51) rfl ?_); refine goesY_ (some 14) Try.func51 #[.int .i64 a0, .int .u64 a1] ?_; (with_reducible refine (shape_Rank.calls a0 a1 t527 t528 _ A4.out).mono ?_); rintro e w' ⟨rfl, ⟨nd, rfl⟩⟩; refine ⟨_, rfl, ?_⟩; (try simp only [errW_none, errW_some])) | ((with_reducible refine gC (f := 52) rfl ?_); refine goesY_ (some 20) Try.func52 #[.int .i64 a0, .int .u64 a1] ?_; (with_reducible refine (vernierref05_Rank.calls k a0 a1 t529 t530 _ A5.out).mono ?_); rintro e w10 ⟨rfl, hb⟩; refine ⟨_, rfl, ?_⟩; have n0_ := Aside0.mk (bS3 HB.out hb); clear HB; have HB := n0_; clear n0_; (try clear hb); (try clear hb2); (try clear hk); (try clear hi); have CA8 := fun W => vernierlaw00_Code.calls t528 t531 W A8.out; try simp only [errW_none, errW_some] at CA8) | (go_at_call 28; (with_reducible refine (CA8 _).mono ?_); rintro e w' ⟨rfl, ⟨nd, rfl⟩⟩))
      go_ret
      exact ⟨by first | rfl | (simp [errW_none, errW_some] <;> rfl) | (simp [*, errW_none, errW_some] <;> rfl), by repeat (first | (with_reducible first | exact HB.out | apply pA | apply pN | apply p1) | exact HB.out)⟩
    · rw [if_neg c7] at H
      have c7b0 : (t527 == t529) = false := beq_eq_false_iff_ne.mpr c7
      have c7b1 : (t527 != t529) = true := bne_iff_ne.mpr c7
      obtain rfl := Option.some.inj H
      go_enter Try.func15, Try.ntmps15
      go_wp2_with (first | ((with_reducible refine gC (f := 39) rfl ?_); refine goesY_ (some 10) Try.func39 #[] ?_; (with_reducible refine (vernierlaw05_up.calls  true _ A3.out).mono ?_); rintro e w11 ⟨rfl, hb⟩; refine ⟨_, rfl, ?_⟩; have n0_ := Aside0.mk (bS3 HB.out hb); clear HB; have HB := n0_; clear n0_; (try clear hb); (try clear hb2); (try clear hk); (try clear hi)) | ((with_reducible refine gC (f := 51) rfl ?_); refine goesY_ (some 14) Try.func51 #[.int .i64 a0, .int .u64 a1] ?_; (with_reducible refine (shape_Rank.calls a0 a1 t527 t528 _ A4.out).mono ?_); rintro e w' ⟨rfl, ⟨nd, rfl⟩⟩; refine ⟨_, rfl, ?_⟩; (try simp only [errW_none, errW_some])) | ((with_reducible refine gC (f := 52) rfl ?_); refine goesY_ (some 20) Try.func52 #[.int .i64 a0, .int .u64 a1] ?_; (with_reducible refine (vernierref05_Rank.calls k a0 a1 t529 t530 _ A5.out).mono ?_); rintro e w12 ⟨rfl, hb⟩; refine ⟨_, rfl, ?_⟩; have n0_ := Aside0.mk (bS3 HB.out hb); clear HB; have HB := n0_; clear n0_; (try clear hb); (try clear hb2); (try clear hk); (try clear hi)))
      go_ret
      exact ⟨by first | rfl | (simp [errW_none, errW_some] <;> rfl) | (simp [*, errW_none, errW_some] <;> rfl), by repeat (first | (with_reducible first | exact HB.out | apply pA | apply pN | apply p1) | exact HB.out)⟩
  · replace c6 := Bool.eq_false_iff.mpr c6
    subst c6
    have H1 : (some false) = some r := by rw [if_neg (show ¬ (false = true) by decide)] at H; exact H
    clear H
    have H := H1
    clear H1
    obtain rfl := Option.some.inj H
    go_enter Try.func15, Try.ntmps15
    go_wp2_with (first | ((with_reducible refine gC (f := 39) rfl ?_); refine goesY_ (some 10) Try.func39 #[] ?_; (with_reducible refine (vernierlaw05_up.calls  false _ A3.out).mono ?_); rintro e w13 ⟨rfl, hb⟩; refine ⟨_, rfl, ?_⟩; have n0_ := Aside0.mk (bS3 HB.out hb); clear HB; have HB := n0_; clear n0_; (try clear hb); (try clear hb2); (try clear hk); (try clear hi)) | ((with_reducible refine gC (f := 51) rfl ?_); refine goesY_ (some 14) Try.func51 #[.int .i64 a0, .int .u64 a1] ?_; (with_reducible refine (shape_Rank.calls a0 a1 t527 t528 _ A4.out).mono ?_); rintro e w' ⟨rfl, ⟨nd, rfl⟩⟩; refine ⟨_, rfl, ?_⟩; (try simp only [errW_none, errW_some])) | ((with_reducible refine gC (f := 52) rfl ?_); refine goesY_ (some 20) Try.func52 #[.int .i64 a0, .int .u64 a1] ?_; (with_reducible refine (vernierref05_Rank.calls k a0 a1 t529 t530 _ A5.out).mono ?_); rintro e w14 ⟨rfl, hb⟩; refine ⟨_, rfl, ?_⟩; have n0_ := Aside0.mk (bS3 HB.out hb); clear HB; have HB := n0_; clear n0_; (try clear hb); (try clear hb2); (try clear hk); (try clear hi)))
    go_ret
    exact ⟨by first | rfl | (simp [errW_none, errW_some] <;> rfl) | (simp [*, errW_none, errW_some] <;> rfl), by repeat (first | (with_reducible first | exact HB.out | apply pA | apply pN | apply p1) | exact HB.out)⟩

/-- THE ONE PURE STATEMENT of vernierlaw05_ShapeRanks: yours. -/
def vernierlaw05_ShapeRanks.Pure : Prop := ∀ (a0 : Int) (a1 : Int), (Lit.int .i64 a0).wf = true → (Lit.int .u64 a1).wf = true → ∃ k, vernierlaw05_ShapeRanks.f k a0 a1 = some true
theorem vernierlaw05_ShapeRanks.walk (P : vernierlaw05_ShapeRanks.Pure) (a0 : Int) (a1 : Int) (w : World) (w0 : (Lit.int .i64 a0).wf = true) (w1 : (Lit.int .u64 a1).wf = true) :
    Calls Try.prog 15 #[.int .i64 a0, .int .u64 a1] w fun e w' => e = .returned (.bool true) ∧ Below w.heap.size w w' := by
  obtain ⟨k, h⟩ := P a0 a1 w0 w1
  refine (vernierlaw05_ShapeRanks.calls k a0 a1 true w h).mono ?_
  rintro e w' ⟨rfl, hd⟩
  exact ⟨rfl, hd⟩

end Go.Proofs.Ytjbcfiigafbobaa.F
