/- Functions of the given program as plain Lean functions, and for each a proof that the program's call comes to just these answers; no further conditions. (Written by a program of this repo out of the translation.) -/
import Derived.Test.YtpdpggndhmnggaaF0a
import Derived.Test.YtpdpggndhmnggaaF3a
import Derived.Test.YtpdpggndhmnggaaF12a
import Derived.Test.YtpdpggndhmnggaaF14a
import Derived.Test.YtpdpggndhmnggaaF15a
import Derived.Test.YtpdpggndhmnggaaF22a
namespace Go.Proofs.Ytpdpggndhmnggaa.F
open Go.RowKit Go.Proofs.YtpdpggndhmnggaaW.PrintWords Go.Proofs.YtpdpggndhmnggaaW.PrintLast Go.Proofs.YtpdpggndhmnggaaW.PrintMore
attribute [local go_sem high] xor_u64 xor_u32 eqErr25 neErr25 eqErrL25 neErrL25
attribute [local go_sem] max2_int min2_int max_two min_two max_three min_three max_four min_four   -- for this text's walks alone
set_option linter.unusedVariables false
set_option linter.unusedSimpArgs false
def vernierlaw17_FltFrom64.f (k : Nat) (a0 : Int) (a1 : Int) : Option (Bool) := (vernierlaw17_shown.f k).bind fun t485 => ((math_Float64frombits.f a1).bind fun t486 => ((flt_From64.f k a0 t486).bind fun bt487 => ((vernierref17_Long.f).bind fun bt489 => ((vernierref17_Form_From.f k bt489.1 bt489.2 a0 a1).bind fun bt491 => (if t485 = true then (if bt487.1 = bt491.1 then ((vernierlaw00_Code.f bt487.2).bind fun t493 => (some (t493 == bt491.2))) else (some false)) else (some false))))))
set_option maxHeartbeats 8000000 in
set_option maxRecDepth 100000 in
theorem vernierlaw17_FltFrom64.calls (k : Nat) (a0 : Int) (a1 : Int) (r : Bool) (w : World) (h : vernierlaw17_FltFrom64.f k a0 a1 = some r) :
  Calls Try.prog 3 #[.int .i64 a0, .int .u64 a1] w fun e w' => e = .returned (.bool r) ∧ Below w.heap.size w w' := by
 have HB := Aside0.mk (Below.refl w.heap.size w)
 have H : ((vernierlaw17_shown.f k).bind fun t485 => ((math_Float64frombits.f a1).bind fun t486 => ((flt_From64.f k a0 t486).bind fun bt487 => ((vernierref17_Long.f).bind fun bt489 => ((vernierref17_Form_From.f k bt489.1 bt489.2 a0 a1).bind fun bt491 => (if t485 = true then (if bt487.1 = bt491.1 then ((vernierlaw00_Code.f bt487.2).bind fun t493 => (some (t493 == bt491.2))) else (some false)) else (some false))))))) = some r := h
 clear h
 replace H := Option.bind_eq_some_iff.mp H
 obtain ⟨t485, A30, H⟩ := H
 try dsimp -simprocs only at H
 have A3 := Aside0.mk A30
 clear A30
 replace H := Option.bind_eq_some_iff.mp H
 obtain ⟨t486, A40, H⟩ := H
 try dsimp -simprocs only at H
 have A4 := Aside0.mk A40
 clear A40
 replace H := Option.bind_eq_some_iff.mp H
 obtain ⟨⟨t487, t488⟩, A50, H⟩ := H
 try dsimp -simprocs only at H
 have A5 := Aside0.mk A50
 clear A50
 replace H := Option.bind_eq_some_iff.mp H
 obtain ⟨⟨t489, t490⟩, A60, H⟩ := H
 try dsimp -simprocs only at H
 have A6 := Aside0.mk A60
 clear A60
 replace H := Option.bind_eq_some_iff.mp H
 obtain ⟨⟨t491, t492⟩, A70, H⟩ := H
 try dsimp -simprocs only at H
 have A7 := Aside0.mk A70
 clear A70
 by_cases c8 : t485 = true
 ·
  subst c8
  rw [if_pos rfl] at H
  by_cases c9 : t487 = t491
  ·
   rw [if_pos c9] at H
   have c9b0 : (t487 == t491) = true := beq_iff_eq.mpr c9
   have c9b1 : (t487 != t491) = false := bne_eq_false_iff_eq.mpr c9
   clear c9
   replace H := Option.bind_eq_some_iff.mp H
   obtain ⟨t493, A100, H⟩ := H
   try dsimp -simprocs only at H
   have A10 := Aside0.mk A100
   clear A100
   obtain rfl := Option.some.inj H
   go_enter Try.func3, Try.ntmps3
   go_wp2_with (first | ((with_reducible refine gX_ 10 10 rfl rfl ?_); refine goesY_ (some 10) Try.func10 #[] ?_; (with_reducible refine (vernierlaw17_shown.calls k  true _ A3.out).mono ?_); rintro e w11 ⟨rfl, hb⟩; refine ⟨_, rfl, ?_⟩; replace HB := Aside0.mk (bS3 HB.out hb); (try clear hb); (try clear hk)) | ((with_reducible refine gC (f := 12) rfl ?_); (with_reducible refine gD (N := 14) rfl ?_); refine goesX_ (some 14) #[.int .u64 a1] ?_; (with_reducible refine (math_Float64frombits.calls a1 t486 _ A4.out).mono ?_); rintro e w' ⟨rfl, rfl⟩; refine ⟨_, rfl, ?_⟩) | ((with_reducible refine gX_ 11 15 rfl rfl ?_); refine goesY_ (some 15) Try.func11 #[.int .i64 a0, .float .f64 t486] ?_; (with_reducible refine (flt_From64.calls k a0 t486 t487 t488 _ A5.out).mono ?_); rintro e w12 ⟨rfl, hb⟩; refine ⟨_, rfl, ?_⟩; replace HB := Aside0.mk (bS3 HB.out hb); (try clear hb); (try clear hk); (try simp only [errW_none, errW_some])) | ((with_reducible refine gX_ 13 19 rfl rfl ?_); refine goesY_ (some 19) Try.func13 #[] ?_; (with_reducible refine (vernierref17_Long.calls  t489 t490 _ A6.out).mono ?_); rintro e w13 ⟨rfl, hb⟩; refine ⟨_, rfl, ?_⟩; replace HB := Aside0.mk (bS3 HB.out hb); (try clear hb); (try clear hk)) | ((with_reducible refine gX_ 14 22 rfl rfl ?_); refine goesY_ (some 22) Try.func14 #[.agg #[.int .i64 t489, .int .i64 t490], .int .i64 a0, .int .u64 a1] ?_; (with_reducible refine (vernierref17_Form_From.calls k t489 t490 a0 a1 t491 t492 _ A7.out).mono ?_); rintro e w14 ⟨rfl, hb⟩; refine ⟨_, rfl, ?_⟩; replace HB := Aside0.mk (bS3 HB.out hb); (try clear hb); (try clear hk); have CA10 := fun W => vernierlaw00_Code.calls t488 t493 W A10.out; try simp only [errW_none, errW_some] at CA10) | (go_at_call 15; (with_reducible refine (CA10 _).mono ?_); rintro e w' ⟨rfl, ⟨nd, rfl⟩⟩))
   go_ret
   exact ⟨eR3, bR3 HB.out⟩
  ·
   rw [if_neg c9] at H
   have c9b0 : (t487 == t491) = false := beq_eq_false_iff_ne.mpr c9
   have c9b1 : (t487 != t491) = true := bne_iff_ne.mpr c9
   obtain rfl := Option.some.inj H
   go_enter Try.func3, Try.ntmps3
   go_wp2_with (first | ((with_reducible refine gX_ 10 10 rfl rfl ?_); refine goesY_ (some 10) Try.func10 #[] ?_; (with_reducible refine (vernierlaw17_shown.calls k  true _ A3.out).mono ?_); rintro e w15 ⟨rfl, hb⟩; refine ⟨_, rfl, ?_⟩; replace HB := Aside0.mk (bS3 HB.out hb); (try clear hb); (try clear hk)) | ((with_reducible refine gC (f := 12) rfl ?_); (with_reducible refine gD (N := 14) rfl ?_); refine goesX_ (some 14) #[.int .u64 a1] ?_; (with_reducible refine (math_Float64frombits.calls a1 t486 _ A4.out).mono ?_); rintro e w' ⟨rfl, rfl⟩; refine ⟨_, rfl, ?_⟩) | ((with_reducible refine gX_ 11 15 rfl rfl ?_); refine goesY_ (some 15) Try.func11 #[.int .i64 a0, .float .f64 t486] ?_; (with_reducible refine (flt_From64.calls k a0 t486 t487 t488 _ A5.out).mono ?_); rintro e w16 ⟨rfl, hb⟩; refine ⟨_, rfl, ?_⟩; replace HB := Aside0.mk (bS3 HB.out hb); (try clear hb); (try clear hk); (try simp only [errW_none, errW_some])) | ((with_reducible refine gX_ 13 19 rfl rfl ?_); refine goesY_ (some 19) Try.func13 #[] ?_; (with_reducible refine (vernierref17_Long.calls  t489 t490 _ A6.out).mono ?_); rintro e w17 ⟨rfl, hb⟩; refine ⟨_, rfl, ?_⟩; replace HB := Aside0.mk (bS3 HB.out hb); (try clear hb); (try clear hk)) | ((with_reducible refine gX_ 14 22 rfl rfl ?_); refine goesY_ (some 22) Try.func14 #[.agg #[.int .i64 t489, .int .i64 t490], .int .i64 a0, .int .u64 a1] ?_; (with_reducible refine (vernierref17_Form_From.calls k t489 t490 a0 a1 t491 t492 _ A7.out).mono ?_); rintro e w18 ⟨rfl, hb⟩; refine ⟨_, rfl, ?_⟩; replace HB := Aside0.mk (bS3 HB.out hb); (try clear hb); (try clear hk)))
   go_ret
   exact ⟨eR3, bR3 HB.out⟩
 ·
  replace c8 := Bool.eq_false_iff.mpr c8
  subst c8
  rw [if_neg (show ¬ (false = true) by decide)] at H
  obtain rfl := Option.some.inj H
  go_enter Try.func3, Try.ntmps3
  go_wp2_with (first | ((with_reducible refine gX_ 10 10 rfl rfl ?_); refine goesY_ (some 10) Try.func10 #[] ?_; (with_reducible refine (vernierlaw17_shown.calls k  false _ A3.out).mono ?_); rintro e w19 ⟨rfl, hb⟩; refine ⟨_, rfl, ?_⟩; replace HB := Aside0.mk (bS3 HB.out hb); (try clear hb); (try clear hk)) | ((with_reducible refine gC (f := 12) rfl ?_); (with_reducible refine gD (N := 14) rfl ?_); refine goesX_ (some 14) #[.int .u64 a1] ?_; (with_reducible refine (math_Float64frombits.calls a1 t486 _ A4.out).mono ?_); rintro e w' ⟨rfl, rfl⟩; refine ⟨_, rfl, ?_⟩) | ((with_reducible refine gX_ 11 15 rfl rfl ?_); refine goesY_ (some 15) Try.func11 #[.int .i64 a0, .float .f64 t486] ?_; (with_reducible refine (flt_From64.calls k a0 t486 t487 t488 _ A5.out).mono ?_); rintro e w20 ⟨rfl, hb⟩; refine ⟨_, rfl, ?_⟩; replace HB := Aside0.mk (bS3 HB.out hb); (try clear hb); (try clear hk); (try simp only [errW_none, errW_some])) | ((with_reducible refine gX_ 13 19 rfl rfl ?_); refine goesY_ (some 19) Try.func13 #[] ?_; (with_reducible refine (vernierref17_Long.calls  t489 t490 _ A6.out).mono ?_); rintro e w21 ⟨rfl, hb⟩; refine ⟨_, rfl, ?_⟩; replace HB := Aside0.mk (bS3 HB.out hb); (try clear hb); (try clear hk)) | ((with_reducible refine gX_ 14 22 rfl rfl ?_); refine goesY_ (some 22) Try.func14 #[.agg #[.int .i64 t489, .int .i64 t490], .int .i64 a0, .int .u64 a1] ?_; (with_reducible refine (vernierref17_Form_From.calls k t489 t490 a0 a1 t491 t492 _ A7.out).mono ?_); rintro e w22 ⟨rfl, hb⟩; refine ⟨_, rfl, ?_⟩; replace HB := Aside0.mk (bS3 HB.out hb); (try clear hb); (try clear hk)))
  go_ret
  exact ⟨eR3, bR3 HB.out⟩
/-- THE ONE PURE STATEMENT of vernierlaw17_FltFrom64: yours. -/
def vernierlaw17_FltFrom64.Pure : Prop := ∀ (a0 : Int) (a1 : Int), (Lit.int .i64 a0).wf = true → (Lit.int .u64 a1).wf = true → ∃ k, vernierlaw17_FltFrom64.f k a0 a1 = some true
theorem vernierlaw17_FltFrom64.walk (P : vernierlaw17_FltFrom64.Pure) (a0 : Int) (a1 : Int) (w : World) (w0 : (Lit.int .i64 a0).wf = true) (w1 : (Lit.int .u64 a1).wf = true) :
  Calls Try.prog 3 #[.int .i64 a0, .int .u64 a1] w fun e w' => e = .returned (.bool true) ∧ Below w.heap.size w w' := by
 obtain ⟨k, h⟩ := P a0 a1 w0 w1
 refine (vernierlaw17_FltFrom64.calls k a0 a1 true w h).mono ?_
 rintro e w' ⟨rfl, hd⟩
 exact ⟨rfl, hd⟩
end Go.Proofs.Ytpdpggndhmnggaa.F
