/- Functions of the given program as plain Lean functions, and for each a proof that the program's call comes to just these answers; no further conditions. (Written by a program of this repo out of the translation.) -/
import Derived.Test.YtpdpggndhmnggaaF0d
import Derived.Test.YtpdpggndhmnggaaF3d
import Derived.Test.YtpdpggndhmnggaaF12d
import Derived.Test.YtpdpggndhmnggaaF40d
import Derived.Test.YtpdpggndhmnggaaF14d
import Derived.Test.YtpdpggndhmnggaaF15d
import Derived.Test.YtpdpggndhmnggaaF22d
namespace Go.Proofs.Ytpdpggndhmnggaa.F
open Go.RowKit Go.Proofs.YtpdpggndhmnggaaW.PrintWords Go.Proofs.YtpdpggndhmnggaaW.PrintLast Go.Proofs.YtpdpggndhmnggaaW.PrintMore
attribute [local go_sem high] xor_u64 xor_u32 eqErr25 neErr25 eqErrL25 neErrL25
attribute [local go_sem] max2_int min2_int max_two min_two max_three min_three max_four min_four   -- for this text's walks alone
set_option linter.unusedVariables false
set_option linter.unusedSimpArgs false
def vernierlaw17_FltFrom32.f (k : Nat) (a0 : Int) (a1 : Int) : Option (Bool) := (vernierlaw17_shown.f k).bind fun t612 => ((math_Float32frombits.f a1).bind fun t613 => ((flt_From32N.f k a0 t613).bind fun bt614 => ((vernierref17_Short.f).bind fun bt616 => ((vernierref17_Form_From.f k bt616.1 bt616.2 a0 (IntKind.u64.wrap (a1))).bind fun bt618 => (if t612 = true then (if bt614.1 = bt618.1 then ((vernierlaw00_Code.f bt614.2).bind fun t620 => (some (t620 == bt618.2))) else (some false)) else (some false))))))
set_option maxHeartbeats 8000000 in
set_option maxRecDepth 100000 in
theorem vernierlaw17_FltFrom32.calls (k : Nat) (a0 : Int) (a1 : Int) (r : Bool) (w : World) (h : vernierlaw17_FltFrom32.f k a0 a1 = some r) :
  Calls Try.prog 5 #[.int .i64 a0, .int .u32 a1] w fun e w' => e = .returned (.bool r) ∧ Below w.heap.size w w' := by
 have HB := Aside0.mk (Below.refl w.heap.size w)
 have H : ((vernierlaw17_shown.f k).bind fun t612 => ((math_Float32frombits.f a1).bind fun t613 => ((flt_From32N.f k a0 t613).bind fun bt614 => ((vernierref17_Short.f).bind fun bt616 => ((vernierref17_Form_From.f k bt616.1 bt616.2 a0 (IntKind.u64.wrap (a1))).bind fun bt618 => (if t612 = true then (if bt614.1 = bt618.1 then ((vernierlaw00_Code.f bt614.2).bind fun t620 => (some (t620 == bt618.2))) else (some false)) else (some false))))))) = some r := h
 clear h
 replace H := Option.bind_eq_some_iff.mp H
 obtain ⟨t612, A30, H⟩ := H
 try dsimp -simprocs only at H
 have A3 := Aside0.mk A30
 clear A30
 replace H := Option.bind_eq_some_iff.mp H
 obtain ⟨t613, A40, H⟩ := H
 try dsimp -simprocs only at H
 have A4 := Aside0.mk A40
 clear A40
 replace H := Option.bind_eq_some_iff.mp H
 obtain ⟨⟨t614, t615⟩, A50, H⟩ := H
 try dsimp -simprocs only at H
 have A5 := Aside0.mk A50
 clear A50
 replace H := Option.bind_eq_some_iff.mp H
 obtain ⟨⟨t616, t617⟩, A60, H⟩ := H
 try dsimp -simprocs only at H
 have A6 := Aside0.mk A60
 clear A60
 replace H := Option.bind_eq_some_iff.mp H
 obtain ⟨⟨t618, t619⟩, A70, H⟩ := H
 try dsimp -simprocs only at H
 have A7 := Aside0.mk A70
 clear A70
 by_cases c8 : t612 = true
 ·
  subst c8
  rw [if_pos rfl] at H
  by_cases c9 : t614 = t618
  ·
   rw [if_pos c9] at H
   have c9b0 : (t614 == t618) = true := beq_iff_eq.mpr c9
   have c9b1 : (t614 != t618) = false := bne_eq_false_iff_eq.mpr c9
   clear c9
   replace H := Option.bind_eq_some_iff.mp H
   obtain ⟨t620, A100, H⟩ := H
   try dsimp -simprocs only at H
   have A10 := Aside0.mk A100
   clear A100
   obtain rfl := Option.some.inj H
   go_enter Try.func5, Try.ntmps5
   go_wp2_with (first | ((with_reducible refine gX_ 10 10 rfl rfl ?_); refine goesY_ (some 10) Try.func10 #[] ?_; (with_reducible refine (vernierlaw17_shown.calls k  true _ A3.out).mono ?_); rintro e w11 ⟨rfl, hb⟩; refine ⟨_, rfl, ?_⟩; replace HB := Aside0.mk (bS3 HB.out hb); (try clear hb); (try clear hk)) | ((with_reducible refine gC (f := 22) rfl ?_); (with_reducible refine gD (N := 14) rfl ?_); refine goesX_ (some 14) #[.int .u32 a1] ?_; (with_reducible refine (math_Float32frombits.calls a1 t613 _ A4.out).mono ?_); rintro e w' ⟨rfl, rfl⟩; refine ⟨_, rfl, ?_⟩) | ((with_reducible refine gX_ 21 15 rfl rfl ?_); refine goesY_ (some 15) Try.func21 #[.int .i64 a0, .float .f32 t613] ?_; (with_reducible refine (flt_From32N.calls k a0 t613 t614 t615 _ A5.out).mono ?_); rintro e w12 ⟨rfl, hb⟩; refine ⟨_, rfl, ?_⟩; replace HB := Aside0.mk (bS3 HB.out hb); (try clear hb); (try clear hk); (try simp only [errW_none, errW_some])) | ((with_reducible refine gX_ 23 19 rfl rfl ?_); refine goesY_ (some 19) Try.func23 #[] ?_; (with_reducible refine (vernierref17_Short.calls  t616 t617 _ A6.out).mono ?_); rintro e w13 ⟨rfl, hb⟩; refine ⟨_, rfl, ?_⟩; replace HB := Aside0.mk (bS3 HB.out hb); (try clear hb); (try clear hk)) | ((with_reducible refine gX_ 14 23 rfl rfl ?_); refine goesY_ (some 23) Try.func14 #[.agg #[.int .i64 t616, .int .i64 t617], .int .i64 a0, .int .u64 (IntKind.u64.wrap (a1))] ?_; (with_reducible refine (vernierref17_Form_From.calls k t616 t617 a0 (IntKind.u64.wrap (a1)) t618 t619 _ A7.out).mono ?_); rintro e w14 ⟨rfl, hb⟩; refine ⟨_, rfl, ?_⟩; replace HB := Aside0.mk (bS3 HB.out hb); (try clear hb); (try clear hk); have CA10 := fun W => vernierlaw00_Code.calls t615 t620 W A10.out; try simp only [errW_none, errW_some] at CA10) | (go_at_call 15; (with_reducible refine (CA10 _).mono ?_); rintro e w' ⟨rfl, ⟨nd, rfl⟩⟩))
   go_ret
   exact ⟨eR3, bR3 HB.out⟩
  ·
   rw [if_neg c9] at H
   have c9b0 : (t614 == t618) = false := beq_eq_false_iff_ne.mpr c9
   have c9b1 : (t614 != t618) = true := bne_iff_ne.mpr c9
   obtain rfl := Option.some.inj H
   go_enter Try.func5, Try.ntmps5
   go_wp2_with (first | ((with_reducible refine gX_ 10 10 rfl rfl ?_); refine goesY_ (some 10) Try.func10 #[] ?_; (with_reducible refine (vernierlaw17_shown.calls k  true _ A3.out).mono ?_); rintro e w15 ⟨rfl, hb⟩; refine ⟨_, rfl, ?_⟩; replace HB := Aside0.mk (bS3 HB.out hb); (try clear hb); (try clear hk)) | ((with_reducible refine gC (f := 22) rfl ?_); (with_reducible refine gD (N := 14) rfl ?_); refine goesX_ (some 14) #[.int .u32 a1] ?_; (with_reducible refine (math_Float32frombits.calls a1 t613 _ A4.out).mono ?_); rintro e w' ⟨rfl, rfl⟩; refine ⟨_, rfl, ?_⟩) | ((with_reducible refine gX_ 21 15 rfl rfl ?_); refine goesY_ (some 15) Try.func21 #[.int .i64 a0, .float .f32 t613] ?_; (with_reducible refine (flt_From32N.calls k a0 t613 t614 t615 _ A5.out).mono ?_); rintro e w16 ⟨rfl, hb⟩; refine ⟨_, rfl, ?_⟩; replace HB := Aside0.mk (bS3 HB.out hb); (try clear hb); (try clear hk); (try simp only [errW_none, errW_some])) | ((with_reducible refine gX_ 23 19 rfl rfl ?_); refine goesY_ (some 19) Try.func23 #[] ?_; (with_reducible refine (vernierref17_Short.calls  t616 t617 _ A6.out).mono ?_); rintro e w17 ⟨rfl, hb⟩; refine ⟨_, rfl, ?_⟩; replace HB := Aside0.mk (bS3 HB.out hb); (try clear hb); (try clear hk)) | ((with_reducible refine gX_ 14 23 rfl rfl ?_); refine goesY_ (some 23) Try.func14 #[.agg #[.int .i64 t616, .int .i64 t617], .int .i64 a0, .int .u64 (IntKind.u64.wrap (a1))] ?_; (with_reducible refine (vernierref17_Form_From.calls k t616 t617 a0 (IntKind.u64.wrap (a1)) t618 t619 _ A7.out).mono ?_); rintro e w18 ⟨rfl, hb⟩; refine ⟨_, rfl, ?_⟩; replace HB := Aside0.mk (bS3 HB.out hb); (try clear hb); (try clear hk)))
   go_ret
   exact ⟨eR3, bR3 HB.out⟩
 ·
  replace c8 := Bool.eq_false_iff.mpr c8
  subst c8
  rw [if_neg (show ¬ (false = true) by decide)] at H
  obtain rfl := Option.some.inj H
  go_enter Try.func5, Try.ntmps5
  go_wp2_with (first | ((with_reducible refine gX_ 10 10 rfl rfl ?_); refine goesY_ (some 10) Try.func10 #[] ?_; (with_reducible refine (vernierlaw17_shown.calls k  false _ A3.out).mono ?_); rintro e w19 ⟨rfl, hb⟩; refine ⟨_, rfl, ?_⟩; replace HB := Aside0.mk (bS3 HB.out hb); (try clear hb); (try clear hk)) | ((with_reducible refine gC (f := 22) rfl ?_); (with_reducible refine gD (N := 14) rfl ?_); refine goesX_ (some 14) #[.int .u32 a1] ?_; (with_reducible refine (math_Float32frombits.calls a1 t613 _ A4.out).mono ?_); rintro e w' ⟨rfl, rfl⟩; refine ⟨_, rfl, ?_⟩) | ((with_reducible refine gX_ 21 15 rfl rfl ?_); refine goesY_ (some 15) Try.func21 #[.int .i64 a0, .float .f32 t613] ?_; (with_reducible refine (flt_From32N.calls k a0 t613 t614 t615 _ A5.out).mono ?_); rintro e w20 ⟨rfl, hb⟩; refine ⟨_, rfl, ?_⟩; replace HB := Aside0.mk (bS3 HB.out hb); (try clear hb); (try clear hk); (try simp only [errW_none, errW_some])) | ((with_reducible refine gX_ 23 19 rfl rfl ?_); refine goesY_ (some 19) Try.func23 #[] ?_; (with_reducible refine (vernierref17_Short.calls  t616 t617 _ A6.out).mono ?_); rintro e w21 ⟨rfl, hb⟩; refine ⟨_, rfl, ?_⟩; replace HB := Aside0.mk (bS3 HB.out hb); (try clear hb); (try clear hk)) | ((with_reducible refine gX_ 14 23 rfl rfl ?_); refine goesY_ (some 23) Try.func14 #[.agg #[.int .i64 t616, .int .i64 t617], .int .i64 a0, .int .u64 (IntKind.u64.wrap (a1))] ?_; (with_reducible refine (vernierref17_Form_From.calls k t616 t617 a0 (IntKind.u64.wrap (a1)) t618 t619 _ A7.out).mono ?_); rintro e w22 ⟨rfl, hb⟩; refine ⟨_, rfl, ?_⟩; replace HB := Aside0.mk (bS3 HB.out hb); (try clear hb); (try clear hk)))
  go_ret
  exact ⟨eR3, bR3 HB.out⟩
/-- THE ONE PURE STATEMENT of vernierlaw17_FltFrom32: yours. -/
def vernierlaw17_FltFrom32.Pure : Prop := ∀ (a0 : Int) (a1 : Int), (Lit.int .i64 a0).wf = true → (Lit.int .u32 a1).wf = true → ∃ k, vernierlaw17_FltFrom32.f k a0 a1 = some true
theorem vernierlaw17_FltFrom32.walk (P : vernierlaw17_FltFrom32.Pure) (a0 : Int) (a1 : Int) (w : World) (w0 : (Lit.int .i64 a0).wf = true) (w1 : (Lit.int .u32 a1).wf = true) :
  Calls Try.prog 5 #[.int .i64 a0, .int .u32 a1] w fun e w' => e = .returned (.bool true) ∧ Below w.heap.size w w' := by
 obtain ⟨k, h⟩ := P a0 a1 w0 w1
 refine (vernierlaw17_FltFrom32.calls k a0 a1 true w h).mono ?_
 rintro e w' ⟨rfl, hd⟩
 exact ⟨rfl, hd⟩
end Go.Proofs.Ytpdpggndhmnggaa.F
